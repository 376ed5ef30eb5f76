/- link: exchange. -/
import Derived.Test.YtcdhjkkdenhmcaaLkPy
import Derived.Test.YtcdhjkkdenhmcaaLkL
namespace Go.Proofs.Ytcdhjkkdenhmcaa
open Go.RowKit Go.Proofs.YtcdhjkkdenhmcaaW.PrintWords Go.Proofs.YtcdhjkkdenhmcaaW.PrintLast Go.Proofs.YtcdhjkkdenhmcaaW.PrintMore
attribute [local go_sem] max2_int min2_int max_two min_two
set_option linter.unusedVariables false
set_option linter.unusedSimpArgs false
theorem SideAt.as_ {w : World} {F : Nat → Prop} {x x' : Sd} {Au Ao Ai : Option Addr} {cu co ci : Nat} (h : SideAt w F x Au cu Ao co Ai ci) (hu : x'.und = x.und) (ho : x'.out = x.out) (hi : x'.inn = x.inn) : SideAt w F x' Au cu Ao co Ai ci :=
  ⟨by rw [hu]; exact h.cu, by rw [hu]; exact h.fu, by rw [ho]; exact h.co, by rw [ho]; exact h.fo, by rw [hi]; exact h.ci, by rw [hi]; exact h.fi⟩
/-- What the loop of exchange keeps. -/
structure Ex (w00 w wr : World) (lo W n : Nat) (A B : Sd) (KA KB F0 F : Nat → Prop) (pa pb : Nat) (Au Ao Ai Av Aq Aj : Option Addr) (cu co ci cv cq cj : Nat) (g3 g4 g6 g7 : Nat) : Prop where
  p : Play w00 wr lo W n A B KA KB F pa pb Au Ao Ai Av Aq Aj cu co ci cv cq cj g3 g4 g6 g7
  sz : w.heap.size ≤ wr.heap.size
  kept : ∀ k, k < w.heap.size → ¬ KA k → ¬ KB k → wr.heap[k]? = w.heap[k]?
  new : ∀ k, F k → (F0 k ∧ k < w.heap.size) ∨ w.heap.size ≤ k
section
variable {w00 w wr w1 w2 w3 w4 w5 w6 w7 w8 w9 : World} {lo W n : Nat} {A B A5 B6 : Sd} {KA KB F F0 : Nat → Prop} {pa pb : Nat} {Au Ao Ai Av Aq Aj Ai' Av' Aq' Aj' : Option Addr} {cu co ci cv cq cj ci' cv' cq' cj' g3 g4 g6 g7 : Nat}
theorem ex_commit (h : Ex w00 w wr lo W n A B KA KB F0 F pa pb Au Ao Ai Av Aq Aj cu co ci cv cq cj g3 g4 g6 g7) (hlo : w00.heap.size ≤ lo) (h3 : w.heap.size ≤ g3) (h4 : w.heap.size ≤ g4) (hw0 : w00.heap.size ≤ w.heap.size) (hne : g3 ≠ g4 ∧ g6 ≠ g3 ∧ g6 ≠ g4 ∧ g7 ≠ g3 ∧ g7 ≠ g4)
    (m1 : IsEnd w1 lo KA (enOf W A).commit pa) (k1 : Moved wr w1 lo KA KA) (m2 : IsEnd w2 lo KB (enOf W B).commit pb) (k2 : Moved w1 w2 lo KB KB)
    (e3 : w3 = (w2.setCell ⟨g3, 4, none⟩ (.int .i64 A.out.length)).setCell ⟨g3, 5, none⟩ (.int .i64 A.inn.length)) (e4 : w4 = (w3.setCell ⟨g4, 4, none⟩ (.int .i64 B.out.length)).setCell ⟨g4, 5, none⟩ (.int .i64 B.inn.length)) :
    Ex w00 w w4 lo W n A.commit B.commit KA KB F0 F pa pb Au Ao Ai Av Aq Aj cu co ci cv cq cj g3 g4 g6 g7 := by
  have hk3 : ∀ k : Nat, k ≠ g3 → w3.heap[k]? = w2.heap[k]? := fun k hk => by rw [e3, Below.heap_setCell _ _ _ _ (by exact hk), Below.heap_setCell _ _ _ _ (by exact hk)]
  have hk4 : ∀ k : Nat, k ≠ g4 → w4.heap[k]? = w3.heap[k]? := fun k hk => by rw [e4, Below.heap_setCell _ _ _ _ (by exact hk), Below.heap_setCell _ _ _ _ (by exact hk)]
  have s3 : w3.heap.size = w2.heap.size := by rw [e3, set_size, set_size]
  have s4 : w4.heap.size = w2.heap.size := by rw [e4, set_size, set_size, s3]
  have z1 := k1.kept.1
  have z2 := k2.kept.1
  have p := h.p
  have kk : ∀ k : Nat, k < wr.heap.size → ¬ KA k → ¬ KB k → k ≠ g3 → k ≠ g4 → w4.heap[k]? = wr.heap[k]? := fun k hk ha hb n3 n4 =>
    (hk4 k n4).trans ((hk3 k n3).trans ((k2.kept.2 k (by omega) hb).trans (k1.kept.2 k hk ha)))
  have kp2 : ∀ g, g < wr.heap.size → (g = g3 ∨ g = g4 ∨ g = g6 ∨ g = g7) → w2.heap[g]? = wr.heap[g]? := fun g hg hh =>
    (k2.kept.2 g (by omega) (fun hk => by have := p.out g (.inr (.inl hk)); omega)).trans (k1.kept.2 g hg (fun hk => by have := p.out g (.inl hk); omega))
  have b3 : w3.heap[g3]? = some (.cells (sdC A.commit pa Au cu Ao co Ai ci) 43 (0, 0)) := by
    rw [e3]
    exact blk_set (blk_set ((kp2 g3 (blk_lt p.b3) (.inl rfl)).trans p.b3) 4 (.int .i64 A.out.length)) 5 (.int .i64 A.inn.length)
  have b4 : w4.heap[g4]? = some (.cells (sdC B.commit pb Av cv Aq cq Aj cj) 43 (0, 0)) := by
    rw [e4]
    exact blk_set (blk_set ((hk3 g4 (Ne.symm hne.1)).trans ((kp2 g4 (blk_lt p.b4) (.inr (.inl rfl))).trans p.b4)) 4 (.int .i64 B.out.length)) 5 (.int .i64 B.inn.length)
  have hF : ∀ k, F k → k < wr.heap.size → w4.heap[k]? = wr.heap[k]? := fun k hk hlt => kk k hlt (p.s.ap k hk).1 (p.s.ap k hk).2 (p.out k (.inr (.inr hk))).1 (p.out k (.inr (.inr hk))).2.1
  refine ⟨⟨⟨p.s.inv.commit.flip.commit.flip, ⟨m1.move (fun k hk => (hk4 k (p.out k (.inl hk)).2.1).trans ((hk3 k (p.out k (.inl hk)).1).trans (k2.kept.2 k (m1.kb k hk).2 (p.s.two.ap k hk)))) (by omega), m2.move (fun k hk => (hk4 k (p.out k (.inr (.inl hk))).2.1).trans (hk3 k (p.out k (.inr (.inl hk))).1)) (by omega), p.s.two.ap⟩, (p.s.sx.step hF).as_ rfl rfl rfl, (p.s.sy.step hF).as_ rfl rfl rfl, p.s.ap⟩, (hk4 g3 hne.1).trans b3, b4, ?_, ?_, p.out, ?_⟩, by have := h.sz; omega, fun k hk ha hb => (kk k (by have := h.sz; omega) ha hb (by omega) (by omega)).trans (h.kept k hk ha hb), h.new⟩
  · exact (hk4 g6 hne.2.2.1).trans ((hk3 g6 hne.2.1).trans ((kp2 g6 (blk_lt p.b6) (.inr (.inr (.inl rfl)))).trans p.b6))
  · exact (hk4 g7 hne.2.2.2.2).trans ((hk3 g7 hne.2.2.2.1).trans ((kp2 g7 (blk_lt p.b7) (.inr (.inr (.inr rfl)))).trans p.b7))
  · rw [e4, e3]
    exact (((((p.below.trans (k1.below.mono hlo)).trans (k2.below.mono hlo)).setCell (show _ ≤ g3 by omega) _).setCell (show _ ≤ g3 by omega) _).setCell (show _ ≤ g4 by omega) _).setCell (show _ ≤ g4 by omega) _
theorem ex_stay (h : Ex w00 w wr lo W n A B KA KB F0 F pa pb Au Ao Ai Av Aq Aj cu co ci cv cq cj g3 g4 g6 g7) (hb : Below wr.heap.size wr w1) : Ex w00 w w1 lo W n A B KA KB F0 F pa pb Au Ao Ai Av Aq Aj cu co ci cv cq cj g3 g4 g6 g7 :=
  ⟨h.p.stay hb, Nat.le_trans h.sz hb.size, fun k hk ha hb' => (hb.block k (Nat.lt_of_lt_of_le hk h.sz)).trans (h.kept k hk ha hb'), h.new⟩
theorem ex_recv (h : Ex w00 w w4 lo W n A B KA KB F0 F pa pb Au Ao Ai Av Aq Aj cu co ci cv cq cj g3 g4 g6 g7) (hlo : w00.heap.size ≤ lo) (h4 : w.heap.size ≤ g4) (hw0 : w00.heap.size ≤ w.heap.size) (hne : g3 ≠ g4 ∧ g6 ≠ g3 ∧ g6 ≠ g4 ∧ g7 ≠ g3 ∧ g7 ≠ g4)
    (z5 : IsEnd w5 lo KA (enOf W A5) pa) (k5 : Moved w4 w5 lo KA KA) (hu : A5.und = A.und) (ho : A5.out = A.out) (hi : A5.inn = A.inn) (hso : A5.so = A.so) (hsi : A5.si = A.si) (htl : A5.tld = A.tld)
    (z6 : IsEnd w6 lo KB (enOf W B6) pb) (k6 : Moved w5 w6 lo KB KB) (y6 : SideAt w6 (okN (fun k => (F k ∧ k < w4.heap.size) ∨ w4.heap.size ≤ k) w5) B6 Av cv Aq cq Aj' cj')
    (t1 : w7.heap[g4]? = some (.cells (sdC B6 pb Av cv Aq cq Aj' cj') 43 (0, 0))) (t2 : ∀ k : Nat, k ≠ g4 → w7.heap[k]? = w6.heap[k]?) (t3 : w7.heap.size = w6.heap.size) (t4 : ∀ b, b ≤ g4 → Below b w6 w7) (hI : Inv W n A5 B6) :
    Ex w00 w w7 lo W n A5 B6 KA KB F0 (fun k => (F k ∧ k < w4.heap.size) ∨ w4.heap.size ≤ k) pa pb Au Ao Ai Av Aq Aj' cu co ci cv cq cj' g3 g4 g6 g7 := by
  have p := h.p
  have s5 := k5.kept.1
  have s6 := k6.kept.1
  have ka : ∀ k, KA k → k < w4.heap.size := fun k hk => (p.s.two.a.kb k hk).2
  have kb : ∀ k, KB k → k < w4.heap.size := fun k hk => (p.s.two.b.kb k hk).2
  have l3 := blk_lt p.b3
  have l4 := blk_lt p.b4
  have l6 := blk_lt p.b6
  have l7 := blk_lt p.b7
  have kk : ∀ k : Nat, k < w4.heap.size → ¬ KA k → ¬ KB k → k ≠ g4 → w7.heap[k]? = w4.heap[k]? := fun k hk ha hb n4 => (t2 k n4).trans ((k6.kept.2 k (by omega) hb).trans (k5.kept.2 k hk ha))
  have og : ∀ g, (g = g3 ∨ g = g4 ∨ g = g6 ∨ g = g7) → ¬ KA g ∧ ¬ KB g := fun g hg => ⟨fun hk => by have := p.out g (.inl hk); omega, fun hk => by have := p.out g (.inr (.inl hk)); omega⟩
  have hF : ∀ k, F k → k < w4.heap.size → w7.heap[k]? = w4.heap[k]? := fun k hk hlt => kk k hlt (p.s.ap k hk).1 (p.s.ap k hk).2 (p.out k (.inr (.inr hk))).2.1
  have hA := ((p.s.sx.bound).step (w1 := w7) (fun k hk hlt => hF k hk.1 hlt)).as_ (x' := A5) hu ho hi
  have hc3 : sdC A5 pa Au cu Ao co Ai ci = sdC A pa Au cu Ao co Ai ci := by
    show #[_, _, _, _, _, _, _] = #[_, _, _, _, _, _, _]
    rw [hu, ho, hi, hso, hsi, htl]
  refine ⟨⟨⟨hI, ⟨z5.move (fun k hk => (t2 k (p.out k (.inl hk)).2.1).trans (k6.kept.2 k (by have := ka k hk; omega) (p.s.two.ap k hk))) (by omega), z6.move (fun k hk => t2 k (p.out k (.inr (.inl hk))).2.1) (by omega), p.s.two.ap⟩, hA.mono (fun k hk _ => .inl hk), (y6.step (w1 := w7) (fun k hk hlt => t2 k (by
      rcases hk with ⟨hk | hk, _⟩ | hk
      · exact (p.out k (.inr (.inr hk.1))).2.1
      · omega
      · omega))).mono (fun k hk _ => by
      rcases hk with ⟨hk, _⟩ | hk
      · exact hk
      · exact .inr (by omega)), fun k hk => ?_⟩, ?_, t1, ?_, ?_, fun k hk => ?_, ((p.below.trans (k5.below.mono hlo)).trans (k6.below.mono hlo)).trans (t4 _ (by omega))⟩, by have := h.sz; omega, fun k hk ha hb => (kk k (by have := h.sz; omega) ha hb (by omega)).trans (h.kept k hk ha hb), fun k hk => ?_⟩
  · rcases hk with hk | hk
    · exact p.s.ap k hk.1
    · exact ⟨fun hh => by have := ka k hh; omega, fun hh => by have := kb k hh; omega⟩
  · rw [hc3]; exact (kk g3 l3 (og g3 (.inl rfl)).1 (og g3 (.inl rfl)).2 hne.1).trans p.b3
  · exact (kk g6 l6 (og g6 (.inr (.inr (.inl rfl)))).1 (og g6 (.inr (.inr (.inl rfl)))).2 hne.2.2.1).trans p.b6
  · exact (kk g7 l7 (og g7 (.inr (.inr (.inr rfl)))).1 (og g7 (.inr (.inr (.inr rfl)))).2 hne.2.2.2.2).trans p.b7
  · rcases hk with hk | hk | hk
    · exact p.out k (.inl hk)
    · exact p.out k (.inr (.inl hk))
    · rcases hk with hk | hk
      · exact p.out k (.inr (.inr hk.1))
      · exact ⟨by omega, by omega, by omega, by omega⟩
  · rcases hk with hk | hk
    · exact h.new k hk.1
    · exact .inr (by have := h.sz; omega)
theorem ex_swap (h : Ex w00 w w7 lo W n A B KA KB F0 F pa pb Au Ao Ai Av Aq Aj cu co ci cv cq cj g3 g4 g6 g7) (h3 : w.heap.size ≤ g3) (h4 : w.heap.size ≤ g4) (hw0 : w00.heap.size ≤ w.heap.size) (hne : g3 ≠ g4 ∧ g6 ≠ g3 ∧ g6 ≠ g4 ∧ g7 ≠ g3 ∧ g7 ≠ g4)
    (s1 : w8.heap[g3]? = some (.cells (sdC B pb Av cv Aq cq Aj cj) 43 (0, 0))) (s2 : ∀ k : Nat, k ≠ g3 → w8.heap[k]? = w7.heap[k]?) (s3 : w8.heap.size = w7.heap.size) (s4 : ∀ b, b ≤ g3 → Below b w7 w8)
    (t1 : w9.heap[g4]? = some (.cells (sdC A pa Au cu Ao co Ai ci) 43 (0, 0))) (t2 : ∀ k : Nat, k ≠ g4 → w9.heap[k]? = w8.heap[k]?) (t3 : w9.heap.size = w8.heap.size) (t4 : ∀ b, b ≤ g4 → Below b w8 w9) :
    Ex w00 w w9 lo W n B A KB KA F0 F pb pa Av Aq Aj Au Ao Ai cv cq cj cu co ci g3 g4 g6 g7 := by
  have p := h.p
  refine ⟨play_put p.s.flip (fun k hk => ?_) p.below p.b6 p.b7 s1 s2 s3 s4 t1 t2 t3 t4 hne (by omega) (by omega), by have := h.sz; omega, fun k hk ha hb => (t2 k (by omega)).trans ((s2 k (by omega)).trans (h.kept k hk hb ha)), h.new⟩
  exact p.out k (hk.elim (fun h => .inr (.inl h)) (fun h => h.elim .inl (fun h => .inr (.inr h))))
end
def Trail (W n : Nat) (x y : Sd) (k : Nat) (A B : Sd) : Prop := (k = 0 ∧ A = x ∧ B = y) ∨ (k = 1 ∧ HalfOf W n x y B A) ∨ (k = 2 ∧ ∃ x1 y1, HalfOf W n x y x1 y1 ∧ HalfOf W n y1 x1 B A)
theorem Trail.next {W n : Nat} {x y A B A' B' : Sd} {k : Nat} (h : Trail W n x y k A B) (hk : k < 2) (hh : HalfOf W n A B A' B') : Trail W n x y (k + 1) B' A' := by
  rcases h with ⟨rfl, rfl, rfl⟩ | ⟨rfl, h⟩ | ⟨rfl, _⟩
  · exact .inr (.inl ⟨rfl, hh⟩)
  · exact .inr (.inr ⟨rfl, B, A, h, hh⟩)
  · omega
def Own (Ka Kb : Nat → Prop) (pa pb k : Nat) (KA KB : Nat → Prop) (pA pB : Nat) : Prop := (k = 1 ∧ KA = Kb ∧ KB = Ka ∧ pA = pb ∧ pB = pa) ∨ (k ≠ 1 ∧ KA = Ka ∧ KB = Kb ∧ pA = pa ∧ pB = pb)
theorem Own.next {Ka Kb KA KB : Nat → Prop} {pa pb pA pB k : Nat} (h : Own Ka Kb pa pb k KA KB pA pB) (hk : k < 2) : Own Ka Kb pa pb (k + 1) KB KA pB pA := by
  rcases h with ⟨rfl, h1, h2, h3, h4⟩ | ⟨hn, h1, h2, h3, h4⟩
  · exact .inr ⟨by omega, h2, h1, h4, h3⟩
  · exact .inl ⟨by omega, h2, h1, h4, h3⟩
def ExPost (w00 w : World) (lo W n : Nat) (x y : Sd) (Ka Kb F : Nat → Prop) (pa pb : Nat) (e : Ending) (w' : World) : Prop :=
  ∃ (x1 y1 x2 y2 : Sd) (F' : Nat → Prop) (Au Ao Ai Av Aq Aj : Option Addr) (cu co ci cv cq cj : Nat), e = .returned (.tuple #[.agg (sdC x2 pa Au cu Ao co Ai ci), .agg (sdC y2 pb Av cv Aq cq Aj cj), .bool true]) ∧ HalfOf W n x y x1 y1 ∧ HalfOf W n y1 x1 y2 x2 ∧ Sides w' lo W n x2 y2 Ka Kb F' pa pb Au Ao Ai Av Aq Aj cu co ci cv cq cj ∧
    Below w00.heap.size w00 w' ∧ w.heap.size ≤ w'.heap.size ∧ (∀ k, k < w.heap.size → ¬ Ka k → ¬ Kb k → w'.heap[k]? = w.heap[k]?) ∧ ∀ k, F' k → (F k ∧ k < w.heap.size) ∨ w.heap.size ≤ k
set_option maxRecDepth 100000 in
set_option maxHeartbeats 8000000 in
theorem exchange_calls (w00 w : World) (lo W n : Nat) (x y : Sd) (Ka Kb F : Nat → Prop) (pa pb : Nat) (Au Ao Ai Av Aq Aj : Option Addr) (cu co ci cv cq cj : Nat) (hb00 : Below w00.heap.size w00 w) (hlo0 : w00.heap.size ≤ lo) (hs : Sides w lo W n x y Ka Kb F pa pb Au Ao Ai Av Aq Aj cu co ci cv cq cj) (hn : n ≤ 500) :
    Calls Try.prog 16 #[.agg (sdC x pa Au cu Ao co Ai ci), .agg (sdC y pb Av cv Aq cq Aj cj)] w (ExPost w00 w lo W n x y Ka Kb F pa pb) := by
  have HS := Aside0.mk hs
  have HB00 := Aside0.mk hb00
  have HLO := Lib.hid hlo0
  have HNN := Lib.hid hn
  clear hs hb00 hlo0 hn
  go_enter Try.func16, Try.ntmps16
  go_upto_region 1 with (fail)
  obtain ⟨w0, hw0⟩ : ∃ w0, w0 = (((w.alloc (.cells (sdC x pa Au cu Ao co Ai ci) 43)).alloc (.cells (sdC y pb Av cv Aq cq Aj cj) 43)).alloc (.cells zeroC 43)).alloc (.cells zeroC 43) := ⟨_, rfl⟩
  have hw0' := hw0
  simp only [zeroC] at hw0'
  rw [← hw0']
  have hb0 : Below w.heap.size w w0 := by rw [hw0]; exact below_alloc (below_alloc (below_alloc (below_alloc (Below.refl _ _) _) _) _) _
  obtain ⟨hsz, hg3, hg4, hg6, hg7⟩ := four w (.cells (sdC x pa Au cu Ao co Ai ci) 43) (.cells (sdC y pb Av cv Aq cq Aj cj) 43) (.cells zeroC 43) (.cells zeroC 43)
  rw [← hw0] at hsz hg3 hg4 hg6 hg7
  obtain ⟨g3, e3⟩ : ∃ g3, g3 = w.heap.size := ⟨_, rfl⟩
  obtain ⟨g4, e4⟩ : ∃ g4, g4 = w.heap.size + 1 := ⟨_, rfl⟩
  obtain ⟨g6, e6⟩ : ∃ g6, g6 = w.heap.size + 1 + 1 := ⟨_, rfl⟩
  obtain ⟨g7, e7⟩ : ∃ g7, g7 = w.heap.size + 1 + 1 + 1 := ⟨_, rfl⟩
  rw [← e7] at hg7 ⊢
  rw [← e6] at hg6 ⊢
  rw [← e4] at hg4 ⊢
  rw [← e3] at hg3 ⊢
  have HGE := Lib.hid (show g3 = w.heap.size ∧ g4 = w.heap.size + 1 ∧ g6 = w.heap.size + 1 + 1 ∧ g7 = w.heap.size + 1 + 1 + 1 ∧ w00.heap.size ≤ w.heap.size by have := HB00.out.size; omega)
  have HE0 := Aside0.mk (show Ex w00 w w0 lo W n x y Ka Kb F (fun k => F k ∧ k < w.heap.size) pa pb Au Ao Ai Av Aq Aj cu co ci cv cq cj g3 g4 g6 g7 from
    ⟨⟨Sides.move (w := w) ⟨HS.out.inv, HS.out.two, HS.out.sx.bound, HS.out.sy.bound, fun k hk => HS.out.ap k hk.1⟩ (fun k _ hlt => hb0.block k hlt) hb0.size, hg3, hg4, hg6, hg7, fun k hk => by
      have := HGE.out
      have hlt : k < w.heap.size := by
        rcases hk with hk | hk | hk
        · exact (HS.out.two.a.kb k hk).2
        · exact (HS.out.two.b.kb k hk).2
        · exact hk.2
      omega, HB00.out.trans (hb0.mono HB00.out.size)⟩, hb0.size, fun k hk _ _ => hb0.block k hk, fun k hk => .inl hk⟩)
  clear hw0 hw0' hb0 hsz hg3 hg4 hg6 hg7 e3 e4 e6 e7 HS HB00
  go_wp2
  go_loopw [7, 10] (fun v7 v wr => ∃ (k : Nat) (A B : Sd) (KA KB F' : Nat → Prop) (pA pB : Nat) (Au Ao Ai Av Aq Aj : Option Addr) (cu co ci cv cq cj : Nat), v = .int .i64 k ∧ v7 = .bool true ∧ Hid (k ≤ 2 ∧ Trail W n x y k A B ∧ Own Ka Kb pa pb k KA KB pA pB) ∧ Aside0 (Ex w00 w wr lo W n A B KA KB F F' pA pB Au Ao Ai Av Aq Aj cu co ci cv cq cj g3 g4 g6 g7)) (fun _ v _ => 2 - (intOf v).toNat)
  case atStart => exact ⟨0, x, y, Ka, Kb, _, pa, pb, _, _, _, _, _, _, _, _, _, _, _, _, rfl, rfl, ⟨Nat.zero_le _, .inl ⟨rfl, rfl, rfl⟩, .inr ⟨by decide, rfl, rfl, rfl, rfl⟩⟩, HE0⟩
  case round =>
    obtain ⟨k, A, B, KA, KB, F1, pA, pB, Au, Ao, Ai, Av, Aq, Aj, cu, co, ci, cv, cq, cj, rfl, rfl, HK, HX⟩ := hrel
    clear HE0
    by_cases hlt : k < 2
    · have k0 : (0 : Int) ≤ k := by omega
      have k1 : (k : Int) < 2 := by omega
      have HLT := Lib.hid hlt
      have HFA := Lib.hid (HX.out.p.s.fine (by have := HNN.out; omega))
      have HFB := Lib.hid (HX.out.p.s.flip.fine (by have := HNN.out; omega))
      have s0 := blk_cell HX.out.p.b3 0
      clear hlt
      go_upto_region 6 with (first
        | (go_at_call 8; refine (linkCommit_calls w1 lo KB (enOf W B) pB HFB.out HEB1.out).mono ?_; rintro e w2 ⟨rfl, hz, hm⟩; have HZ2 := Aside0.mk hz; have HM2 := Aside0.mk hm; clear hz hm)
        | (go_at_call 8; refine (linkCommit_calls wr lo KA (enOf W A) pA HFA.out HX.out.p.s.two.a).mono ?_; rintro e w1 ⟨rfl, hz, hm⟩; have HZ1 := Aside0.mk hz; have HM1 := Aside0.mk hm; have HEB1 := Aside0.mk (HX.out.p.s.two.b.move (w1 := w1) (fun j hj => hm.kept.2 j (HX.out.p.s.two.b.kb j hj).2 (fun h => HX.out.p.s.two.ap j h hj)) hm.kept.1); have z0 := blk_cell ((hm.kept.2 g4 (blk_lt HX.out.p.b4) (fun h => (HX.out.p.out g4 (.inl h)).2.1 rfl)).trans HX.out.p.b4) 0; clear hz hm))
      have HB3 := Aside0.mk (((HM2.out.kept.2 g3 (Nat.lt_of_lt_of_le (blk_lt HX.out.p.b3) HM1.out.kept.1) (fun h => (HX.out.p.out g3 (.inr (.inl h))).1 rfl)).trans (HM1.out.kept.2 g3 (blk_lt HX.out.p.b3) (fun h => (HX.out.p.out g3 (.inl h)).1 rfl))).trans HX.out.p.b3)
      have HB4 := Aside0.mk (((HM2.out.kept.2 g4 (Nat.lt_of_lt_of_le (blk_lt HX.out.p.b4) HM1.out.kept.1) (fun h => (HX.out.p.out g4 (.inr (.inl h))).2.1 rfl)).trans (HM1.out.kept.2 g4 (blk_lt HX.out.p.b4) (fun h => (HX.out.p.out g4 (.inl h)).2.1 rfl))).trans HX.out.p.b4)
      have a1 : (A.out.length : Int) ≤ 100000 := by have h : A.out.length ≤ 100000 := HFA.out.ol; omega
      have a2 : (A.inn.length : Int) ≤ 100000 := by have h : A.inn.length ≤ 100000 := HFA.out.gl; omega
      have b1 : (B.out.length : Int) ≤ 100000 := by have h : B.out.length ≤ 100000 := HFB.out.ol; omega
      have b2 : (B.inn.length : Int) ≤ 100000 := by have h : B.inn.length ≤ 100000 := HFB.out.gl; omega
      clear s0 z0 HEB1
      have q2 := blk_cell HB3.out 2
      have q3 := blk_cell HB3.out 3
      have q4 := blk_cell HB3.out 4
      have q5 := blk_cell HB3.out 5
      have f4 := blk_frozen HB3.out 4
      have f5 := blk_frozen HB3.out 5
      go_upto_region 7 with (fail)
      obtain ⟨w3, hw3⟩ : ∃ w3, w3 = (w2.setCell ⟨g3, 4, none⟩ (.int .i64 A.out.length)).setCell ⟨g3, 5, none⟩ (.int .i64 A.inn.length) := ⟨_, rfl⟩
      rw [← hw3]
      have HW3 := Lib.hid hw3
      have HB43 := Aside0.mk (show w3.heap[g4]? = some (.cells (sdC B pB Av cv Aq cq Aj cj) 43 (0, 0)) by
        rw [hw3, Below.heap_setCell _ _ _ _ (show g4 ≠ g3 by have := HGE.out; omega), Below.heap_setCell _ _ _ _ (show g4 ≠ g3 by have := HGE.out; omega)]; exact HB4.out)
      clear hw3 q2 q3 q4 q5 f4 f5
      have q2 := blk_cell HB43.out 2
      have q3 := blk_cell HB43.out 3
      have q4 := blk_cell HB43.out 4
      have q5 := blk_cell HB43.out 5
      have f4 := blk_frozen HB43.out 4
      have f5 := blk_frozen HB43.out 5
      go_upto_region 8 with (fail)
      obtain ⟨w4, hw4⟩ : ∃ w4, w4 = (w3.setCell ⟨g4, 4, none⟩ (.int .i64 B.out.length)).setCell ⟨g4, 5, none⟩ (.int .i64 B.inn.length) := ⟨_, rfl⟩
      rw [← hw4]
      have HX4 := Aside0.mk (ex_commit HX.out HLO.out (by have := HGE.out; omega) (by have := HGE.out; omega) (by have := HGE.out; omega) (by have := HGE.out; omega) HZ1.out HM1.out HZ2.out HM2.out HW3.out hw4)
      have HIV := Lib.hid HX.out.p.s.inv
      clear hw4 q2 q3 q4 q5 f4 f5 HB3 HB4 HB43 HW3 HZ1 HM1 HZ2 HM2 HX HFA HFB b1 b2
      obtain ⟨AC, hAC⟩ : ∃ AC, AC = A.commit := ⟨_, rfl⟩
      obtain ⟨BC, hBC⟩ : ∃ BC, BC = B.commit := ⟨_, rfl⟩
      rw [← hAC, ← hBC] at HX4
      have HAC := Lib.hid hAC
      have HBC := Lib.hid hBC
      clear hAC hBC
      have HFC := Lib.hid (HX4.out.p.s.fine (by have := HNN.out; omega))
      have HFD := Lib.hid (HX4.out.p.s.flip.fine (by have := HNN.out; omega))
      have s0 := blk_cell HX4.out.p.b3 0
      by_cases hgo : A.tld < A.out.length ∨ A.rcv = true
      · obtain ⟨mr, hmr⟩ : ∃ mr : Int, ((AC.out.length : Nat) : Int).tmod 3 = mr := ⟨_, rfl⟩
        have m0 : 0 ≤ mr := by rw [← hmr]; exact Int.tmod_nonneg _ (by omega)
        have m1 : mr ≤ 2 := by have := Int.tmod_lt_of_pos ((AC.out.length : Nat) : Int) (show (0 : Int) < 3 by decide); omega
        have HMO := Lib.hid (show (1 : Int) ≤ 1 + mr by omega)
        have HH := Lib.hid (show HalfOf W n A B { AC with rcv := false } (BC.recv AC.si AC.tld (1 + mr) (wl (enOf W AC))) by rw [HAC.out, HBC.out]; exact half_sent HIV.out (1 + mr) HMO.out hgo)
        have HGO := Lib.hid (show (enOf W AC).tld < (enOf W AC).so ∨ (enOf W AC).rcv = true by rw [HAC.out]; exact hgo)
        have HIC := Lib.hid (show Inv W n AC BC by rw [HAC.out, HBC.out]; exact HIV.out.commit.flip.commit.flip)
        have HSH := Lib.hid (show ∀ m ∈ (enOf W AC).out, m.length ≤ 1000 from fun m hm => by have := HIC.out.a.short m hm; omega)
        go_upto_region 10 with (go_at_call 10; refine (linkPacket_calls w4 lo KA (enOf W AC) pA HFC.out HX4.out.p.s.two.a HSH.out HGO.out).mono ?_; rintro e w5 ⟨A1, c1', rfl, hr, hz, hm⟩; obtain ⟨pk, hpk⟩ : ∃ pk, pk = pkt (enOf W AC) := ⟨_, rfl⟩; rw [← hpk] at hr ⊢; have HPK := Lib.hid hpk; have HR5 := Aside0.mk hr; have HZ5 := Aside0.mk hz; have HM5 := Aside0.mk hm; clear hr hz hm hpk)
        have HKA := Lib.hid (fun j hj => (HX4.out.p.s.two.a.kb j hj).2 : ∀ j, KA j → j < w4.heap.size)
        have HKB := Lib.hid (fun j hj => (HX4.out.p.s.two.b.kb j hj).2 : ∀ j, KB j → j < w4.heap.size)
        have HB35 := Aside0.mk ((HM5.out.kept.2 g3 (blk_lt HX4.out.p.b3) (fun h => (HX4.out.p.out g3 (.inl h)).1 rfl)).trans HX4.out.p.b3)
        have HB45 := Aside0.mk ((HM5.out.kept.2 g4 (blk_lt HX4.out.p.b4) (fun h => (HX4.out.p.out g4 (.inl h)).2.1 rfl)).trans HX4.out.p.b4)
        have HEB := Aside0.mk (HX4.out.p.s.two.b.move (w1 := w5) (fun j hj => HM5.out.kept.2 j (HKB.out j hj) (fun h => HX4.out.p.s.two.ap j h hj)) HM5.out.kept.1)
        have HSA := Aside0.mk (((HX4.out.p.s.sx.bound).step (w1 := w5) (fun j hj hl => HM5.out.kept.2 j hl (HX4.out.p.s.ap j hj.1).1)).mono (F' := fun j => (F1 j ∧ j < w4.heap.size) ∨ w4.heap.size ≤ j) (fun j hj _ => .inl hj))
        have HSB := Aside0.mk (((HX4.out.p.s.sy.bound).step (w1 := w5) (fun j hj hl => HM5.out.kept.2 j hl (HX4.out.p.s.ap j hj.1).1)).mono (F' := fun j => (F1 j ∧ j < w4.heap.size) ∨ w4.heap.size ≤ j) (fun j hj _ => .inl hj))
        have HPF := Aside0.mk (show Kd.F kB w5 (fun j => (F1 j ∧ j < w4.heap.size) ∨ w4.heap.size ≤ j) A1 pk.length pk from Kd.R_F (Kd.R_mono (Kd.R_bound HR5.out) (fun j hj => .inr hj.2.1)))
        have HPC := Lib.hid (Kd.R_reads' HR5.out).2.1
        have hun := sent_under HIC.out
        have HBR := Lib.hid (HIC.out.b.brings HIC.out.a.so1 hun (1 + mr))
        have HWS := Lib.hid (show (∀ m ∈ wl (enOf W AC), m.length ≤ 1000) ∧ (wl (enOf W AC)).length ≤ 100 ∧ AC.si ≤ BC.so ∧ AC.tld ≤ 100000 ∧ AC.out.length ≤ 90000 by
          refine ⟨fun m hm => HSH.out m (List.mem_of_mem_take (List.mem_of_mem_drop hm)), by have := hun.gl; omega, by have := HIC.out.a.len; have := HIC.out.a.si1; omega, ?_, by have := HIC.out.na; have := HNN.out; omega⟩
          have := HIC.out.a.to1; have := HIC.out.a.so1; have := HIC.out.na; have := HNN.out; omega)
        have HFK := Lib.hid (show ∀ j, (F1 j ∧ j < w4.heap.size) ∨ w4.heap.size ≤ j → ¬ KB j from fun j hj h => by
          rcases hj with hj | hj
          · exact (HX4.out.p.s.ap j hj.1).2 h
          · have := HKB.out j h; omega)
        obtain ⟨⟨r0, r1, r2, r3, r4, r5, r6⟩, _⟩ := cells7 HB35.out
        obtain ⟨⟨z0, z1, z2, z3, z4, z5, z6⟩, _⟩ := cells7 HB45.out
        clear hun hgo s0 HR5 a1 a2
        go_upto_region 13 with (first
          | (refine store7 rfl rfl _ _ rfl B6 pB Av Aq Aj' cv cq cj' rfl rfl HB46.out ?_; intro w7 t1 t2 t3 t4; have HX7 := Aside0.mk (ex_recv HX4.out HLO.out (by have := HGE.out; omega) (by have := HGE.out; omega) (by have := HGE.out; omega) (A5 := { AC with rcv := false }) HZ5.out HM5.out rfl rfl rfl rfl rfl rfl HZ6.out HM6.out HS6.out t1 t2 t3 t4 (by rw [HB6.out]; exact HH.out.inv)); clear t1 t2 t3 t4)
          | (go_at_call 26; refine (receive_calls w5 lo KB (fun j => (F1 j ∧ j < w4.heap.size) ∨ w4.heap.size ≤ j) W BC AC pB pA Av Aq Aj Au Ao Ai cv cq cj cu co ci A1 c1' pk AC.si AC.tld (wl (enOf W AC)) (1 + mr) HFD.out HEB.out HSB.out HSA.out HPK.out HPF.out HPC.out HWS.out.2.2.1 HWS.out.2.2.2.1 HWS.out.1 HWS.out.2.1 HBR.out.1 HBR.out.2 HIC.out.a.so1 HWS.out.2.2.2.2 HFK.out).mono ?_; rintro e w6 ⟨Aj', cj', rfl, hz, hm, hs⟩; obtain ⟨B6, hB6⟩ : ∃ B6, B6 = BC.recv AC.si AC.tld (1 + mr) (wl (enOf W AC)) := ⟨_, rfl⟩; rw [← hB6] at hz hs ⊢; have HB6 := Lib.hid hB6; have HZ6 := Aside0.mk hz; have HM6 := Aside0.mk hm; have HS6 := Aside0.mk hs; have HB46 := Aside0.mk ((hm.kept.2 g4 (blk_lt HB45.out) (fun h => (HX4.out.p.out g4 (.inr (.inl h))).2.1 rfl)).trans HB45.out); clear hz hm hs hB6))
        have HHB := Lib.hid (show HalfOf W n A B { AC with rcv := false } B6 by rw [HB6.out]; exact HH.out)
        clear r0 r1 r2 r3 r4 r5 r6 z0 z1 z2 z3 z4 z5 z6 HX4 HZ5 HM5 HZ6 HM6 HS6 HB35 HB45 HB46 HEB HSA HSB HPF HFK HBR HWS HKA HKB HH HB6 hmr m0 m1 HGO HIC HAC HBC HSH HPK HPC HMO
        obtain ⟨A5, hA5⟩ : ∃ A5, A5 = ({ AC with rcv := false } : Sd) := ⟨_, rfl⟩
        rw [← hA5] at HX7 HHB
        clear hA5
        obtain ⟨⟨r0, r1, r2, r3, r4, r5, r6⟩, _⟩ := cells7 HX7.out.p.b3
        obtain ⟨⟨z0, z1, z2, z3, z4, z5, z6⟩, _⟩ := cells7 HX7.out.p.b4
        have HB47 := Aside0.mk HX7.out.p.b4
        have HB37 := Aside0.mk HX7.out.p.b3
        go_upto_region 14 with (first
          | (refine store7 rfl rfl _ _ rfl A5 pA Au Ao Ai cu co ci rfl rfl HB48.out ?_; intro w9 t1 t2 t3 t4; have HX9 := Aside0.mk (ex_swap HX7.out (by have := HGE.out; omega) (by have := HGE.out; omega) (by have := HGE.out; omega) (by have := HGE.out; omega) S1.out S2.out S3.out S4.out t1 t2 t3 t4); clear t1 t2 t3 t4)
          | (refine store7 rfl rfl _ _ rfl B6 pB Av Aq Aj' cv cq cj' rfl rfl HB37.out ?_; intro w8 t1 t2 t3 t4; have S1 := Aside0.mk t1; have S2 := Lib.hid t2; have S3 := Lib.hid t3; have S4 := Lib.hid t4; have HB48 := Aside0.mk ((t2 g4 (by have := HGE.out; omega)).trans HB47.out); clear t1 t2 t3 t4))
        clear r0 r1 r2 r3 r4 r5 r6 z0 z1 z2 z3 z4 z5 z6 HB47 HB37 HB48 S1 S2 S3 S4 HX7
        go_wp2
        go_roundw
        case rel => exact ⟨k + 1, B6, A5, KB, KA, _, pB, pA, _, _, _, _, _, _, _, _, _, _, _, _, by go_num, rfl, ⟨by have := HLT.out; omega, HK.out.2.1.next HLT.out HHB.out, HK.out.2.2.next HLT.out⟩, HX9⟩
        case measure => have := HLT.out; simp [intOf]; omega
      · have HH := Lib.hid (show HalfOf W n A B AC BC by rw [HAC.out, HBC.out]; exact half_none HIV.out hgo)
        have hno : A.out.length ≤ A.tld ∧ A.rcv = false := by
          refine ⟨?_, ?_⟩
          · rcases Nat.lt_or_ge A.tld A.out.length with h | h
            · exact absurd (.inl h) hgo
            · exact h
          · cases hr : A.rcv with
            | false => rfl
            | true => exact absurd (.inr hr) hgo
        have HNO := Lib.hid hno
        clear hgo hno
        go_upto_region 13 with (go_at_call 10; refine (linkPacketNone_calls w4 lo KA (enOf W AC) pA HFC.out HX4.out.p.s.two.a (by rw [HAC.out]; exact HNO.out.1) (by rw [HAC.out]; exact HNO.out.2)).mono ?_; rintro e w7 ⟨rfl, hd⟩; have HX7 := Aside0.mk (ex_stay HX4.out (show Below w4.heap.size w4 w7 by obtain ⟨⟨m, rfl⟩⟩ := hd; exact pw_below_drewN (Below.refl _ _) _)); clear hd)
        have HHB := HH
        clear s0 a1 a2 HX4 HNO HH HAC HBC
        obtain ⟨A5, hA5⟩ : ∃ A5, A5 = AC := ⟨_, rfl⟩
        obtain ⟨B6, hB6⟩ : ∃ B6, B6 = BC := ⟨_, rfl⟩
        rw [← hA5, ← hB6] at HX7 HHB
        clear hA5 hB6
        obtain ⟨⟨r0, r1, r2, r3, r4, r5, r6⟩, _⟩ := cells7 HX7.out.p.b3
        obtain ⟨⟨z0, z1, z2, z3, z4, z5, z6⟩, _⟩ := cells7 HX7.out.p.b4
        have HB47 := Aside0.mk HX7.out.p.b4
        have HB37 := Aside0.mk HX7.out.p.b3
        go_upto_region 14 with (first
          | (refine store7 rfl rfl _ _ rfl A5 pA Au Ao Ai cu co ci rfl rfl HB48.out ?_; intro w9 t1 t2 t3 t4; have HX9 := Aside0.mk (ex_swap HX7.out (by have := HGE.out; omega) (by have := HGE.out; omega) (by have := HGE.out; omega) (by have := HGE.out; omega) S1.out S2.out S3.out S4.out t1 t2 t3 t4); clear t1 t2 t3 t4)
          | (refine store7 rfl rfl _ _ rfl B6 pB Av Aq Aj cv cq cj rfl rfl HB37.out ?_; intro w8 t1 t2 t3 t4; have S1 := Aside0.mk t1; have S2 := Lib.hid t2; have S3 := Lib.hid t3; have S4 := Lib.hid t4; have HB48 := Aside0.mk ((t2 g4 (by have := HGE.out; omega)).trans HB47.out); clear t1 t2 t3 t4))
        clear r0 r1 r2 r3 r4 r5 r6 z0 z1 z2 z3 z4 z5 z6 HB47 HB37 HB48 S1 S2 S3 S4 HX7
        go_wp2
        go_roundw
        case rel => exact ⟨k + 1, B6, A5, KB, KA, _, pB, pA, _, _, _, _, _, _, _, _, _, _, _, _, by go_num, rfl, ⟨by have := HLT.out; omega, HK.out.2.1.next HLT.out HHB.out, HK.out.2.2.next HLT.out⟩, HX9⟩
        case measure => have := HLT.out; simp [intOf]; omega
    · have HKE := Lib.hid (show k = 2 by have := HK.out.1; omega)
      have k1 : ¬ (k : Int) < 2 := by omega
      have k0 : (0 : Int) ≤ k := by omega
      clear hlt
      have HR3 := Aside0.mk HX.out.p.b3
      have HR4 := Aside0.mk HX.out.p.b4
      have HR6 := Aside0.mk HX.out.p.b6
      have HR7 := Aside0.mk HX.out.p.b7
      have HSZ := Lib.hid HX.out.sz
      go_upto_region 15 with (fail)
      refine wp_region_noPanic ?_
      refine wp_region_held_drew (S := fun V => V.heap[g3]? = some (.cells (sdC A pA Au cu Ao co Ai ci) 43 (0, 0)) ∧ V.heap[g4]? = some (.cells (sdC B pB Av cv Aq cq Aj cj) 43 (0, 0))) (by kernel_rfl) (⟨HR3.out, HR4.out⟩) (fun hHeld => ?_)
      obtain ⟨wd, hwd⟩ : ∃ wd, wd = wr.drew := ⟨_, rfl⟩
      rw [← hwd] at hHeld ⊢
      have HBD := Aside0.mk (show Below wr.heap.size wr wd by rw [hwd]; exact (Below.refl _ _).drew)
      have HDE := Lib.hid (show ∀ k : Nat, wd.heap[k]? = wr.heap[k]? by rw [hwd]; exact fun _ => rfl)
      have HDS := Lib.hid (show wd.heap.size = wr.heap.size by rw [hwd]; rfl)
      clear hwd
      have HZ6 := Aside0.mk ((HDE.out g6).trans HR6.out)
      have HZ7 := Aside0.mk ((HDE.out g7).trans HR7.out)
      refine wpAnyH_take (i := 0) (v := ?_) rfl (by kernel_rfl) (by kernel_rfl) (by kernel_rfl) (fun _ _ _ h => h) (Or.inl ⟨by rfl, ?_⟩) (by assumption) ?_
      rotate_left 1
      · first | (intro w hSw; obtain ⟨⟨r0, r1, r2, r3, r4, r5, r6⟩, _⟩ := cells7 hSw.1; go_simp; done) | (intro w hSw; obtain ⟨⟨r0, r1, r2, r3, r4, r5, r6⟩, _⟩ := cells7 hSw.1; go_simp; with_reducible rfl)
      try simp only [Act.put, List.getElem_toArray, List.getElem_cons_zero, List.getElem_cons_succ, List.setIfInBounds_toArray, List.set_cons_zero, List.set_cons_succ]
      refine wpAnyH_take (i := 1) (v := ?_) rfl (by kernel_rfl) (by kernel_rfl) (by kernel_rfl) (fun _ _ _ h => h) (Or.inl ⟨by rfl, ?_⟩) (by assumption) ?_
      rotate_left 1
      · first | (intro w hSw; obtain ⟨⟨r0, r1, r2, r3, r4, r5, r6⟩, _⟩ := cells7 hSw.2; go_simp; done) | (intro w hSw; obtain ⟨⟨r0, r1, r2, r3, r4, r5, r6⟩, _⟩ := cells7 hSw.2; go_simp; with_reducible rfl)
      try simp only [Act.put, List.getElem_toArray, List.getElem_cons_zero, List.getElem_cons_succ, List.setIfInBounds_toArray, List.set_cons_zero, List.set_cons_succ]
      refine wpAnyH_take (i := 2) (v := ?_) rfl (by kernel_rfl) (by kernel_rfl) (by kernel_rfl) (fun _ _ _ h => h) (Or.inl ⟨by rfl, ?_⟩) (by assumption) ?_
      rotate_left 1
      · first | (intro w hSw; go_simp; done) | (intro w hSw; go_simp; with_reducible rfl)
      try simp only [Act.put, List.getElem_toArray, List.getElem_cons_zero, List.getElem_cons_succ, List.setIfInBounds_toArray, List.set_cons_zero, List.set_cons_succ]
      refine wpAnyH_ready (rs := [3]) (by kernel_rfl) (by simp) ?_
      refine AllReadyH.cons rfl (fun K hK => ?_) AllReadyH.nil
      have HSS := Lib.hid hHeld; obtain ⟨⟨r0, r1, r2, r3, r4, r5, r6⟩, s0, s1, s2, s3, s4, s5, s6⟩ := cells7 (show wd.heap[g6]? = some (.cells #[.pointer none, .slice none 0 0, .slice none 0 0, .slice none 0 0, .int .i64 0, .int .i64 0, .int .i64 0] 43 (0, 0)) from HZ6.out); go_simp
      refine hK.out _ _ (by rw [put7_fold]; exact ⟨(put7_ne _ (by have := HGE.out; omega) _ _ _ _ _ _ _).trans hHeld.1, (put7_ne _ (by have := HGE.out; omega) _ _ _ _ _ _ _).trans hHeld.2⟩) (fun hHeld => ?_)
      clear hK K
      try simp only [Act.put, List.getElem_toArray, List.getElem_cons_zero, List.getElem_cons_succ, List.setIfInBounds_toArray, List.set_cons_zero, List.set_cons_succ]
      generalize hw5 : (((((((wd.setCell ⟨g6, 0, none⟩ (.pointer (some ⟨pA, 0, none⟩))).setCell ⟨g6, 1, none⟩ (.slice Au A.und.length cu)).setCell ⟨g6, 2, none⟩ (.slice Ao A.out.length co)).setCell ⟨g6, 3, none⟩ (.slice Ai A.inn.length ci)).setCell ⟨g6, 4, none⟩ (.int .i64 A.so)).setCell ⟨g6, 5, none⟩ (.int .i64 A.si)).setCell ⟨g6, 6, none⟩ (.int .i64 A.tld)) = w5 at hHeld ⊢
      have HW5 := Lib.hid (show w5 = put7 wd g6 (.pointer (some ⟨pA, 0, none⟩)) (.slice Au A.und.length cu) (.slice Ao A.out.length co) (.slice Ai A.inn.length ci) (.int .i64 A.so) (.int .i64 A.si) (.int .i64 A.tld) from hw5.symm)
      have HZ7' := Aside0.mk (show w5.heap[g7]? = some (.cells #[.pointer none, .slice none 0 0, .slice none 0 0, .slice none 0 0, .int .i64 0, .int .i64 0, .int .i64 0] 43 (0, 0)) by rw [HW5.out]; exact (put7_ne _ (by have := HGE.out; omega) _ _ _ _ _ _ _).trans HZ7.out)
      clear hw5
      refine wpAnyH_ready (rs := [4]) (by kernel_rfl) (by simp) ?_
      refine AllReadyH.cons rfl (fun K hK => ?_) AllReadyH.nil
      obtain ⟨⟨r0, r1, r2, r3, r4, r5, r6⟩, s0, s1, s2, s3, s4, s5, s6⟩ := cells7 HZ7'.out; go_simp
      refine hK.out _ _ (by rw [put7_fold]; exact ⟨(put7_ne _ (by have := HGE.out; omega) _ _ _ _ _ _ _).trans hHeld.1, (put7_ne _ (by have := HGE.out; omega) _ _ _ _ _ _ _).trans hHeld.2⟩) (fun hHeld => ?_)
      clear hK K
      try simp only [Act.put, List.getElem_toArray, List.getElem_cons_zero, List.getElem_cons_succ, List.setIfInBounds_toArray, List.set_cons_zero, List.set_cons_succ]
      refine wpAnyH_take (i := 5) (v := ?_) rfl (by kernel_rfl) (by kernel_rfl) (by kernel_rfl) (fun _ _ _ h => h) (Or.inl ⟨by rfl, ?_⟩) (by assumption) ?_
      rotate_left 1
      · first | (intro w hSw; go_simp; done) | (intro w hSw; go_simp; with_reducible rfl)
      try simp only [Act.put, List.getElem_toArray, List.getElem_cons_zero, List.getElem_cons_succ, List.setIfInBounds_toArray, List.set_cons_zero, List.set_cons_succ]
      refine wpAnyH_done (by kernel_rfl) ?_ _
      refine NoPanic.normal ?_
      rw [put7_fold]
      obtain ⟨w9, hw9⟩ : ∃ w9, w9 = put7 w5 g7 (.pointer (some ⟨pB, 0, none⟩)) (.slice Av B.und.length cv) (.slice Aq B.out.length cq) (.slice Aj B.inn.length cj) (.int .i64 B.so) (.int .i64 B.si) (.int .i64 B.tld) := ⟨_, rfl⟩
      rw [← hw9]
      have hp9 : PutTwo w wd w9 g6 g7 := by rw [hw9, HW5.out]; exact put_two (by have := HGE.out; omega) (by have := HGE.out; omega) (by have := HSZ.out; have := HDS.out; omega) _ _ _ _ _ _ _ _ _ _ _ _ _ _
      have hc6 : w9.heap[g6]? = some (.cells #[.pointer (some ⟨pA, 0, none⟩), .slice Au A.und.length cu, .slice Ao A.out.length co, .slice Ai A.inn.length ci, .int .i64 A.so, .int .i64 A.si, .int .i64 A.tld] 43 (0, 0)) := by rw [hw9, HW5.out]; exact (put7_ne _ (by have := HGE.out; omega) _ _ _ _ _ _ _).trans (put7_at (show wd.heap[g6]? = some (.cells #[.pointer none, .slice none 0 0, .slice none 0 0, .slice none 0 0, .int .i64 0, .int .i64 0, .int .i64 0] 43 (0, 0)) from HZ6.out) _ _ _ _ _ _ _)
      have hc7 : w9.heap[g7]? = some (.cells #[.pointer (some ⟨pB, 0, none⟩), .slice Av B.und.length cv, .slice Aq B.out.length cq, .slice Aj B.inn.length cj, .int .i64 B.so, .int .i64 B.si, .int .i64 B.tld] 43 (0, 0)) := by rw [hw9]; exact put7_at HZ7'.out _ _ _ _ _ _ _
      have HP9 := Aside0.mk hp9
      obtain ⟨⟨r0, r1, r2, r3, r4, r5, r6⟩, _⟩ := cells7 hc6
      obtain ⟨⟨q0, q1, q2, q3, q4, q5, q6⟩, _⟩ := cells7 hc7
      clear hw9 HW5 hp9 hc6 hc7 hHeld
      go_wp2
      (try simp only [Exit.inBlock, Exit.then])
      refine bodyPost_ret (v := .tuple #[.agg #[.pointer (some ⟨pA, 0, none⟩), .slice Au A.und.length cu, .slice Ao A.out.length co, .slice Ai A.inn.length ci, .int .i64 A.so, .int .i64 A.si, .int .i64 A.tld], .agg #[.pointer (some ⟨pB, 0, none⟩), .slice Av B.und.length cv, .slice Aq B.out.length cq, .slice Aj B.inn.length cj, .int .i64 B.so, .int .i64 B.si, .int .i64 B.tld], .bool true]) (by simp [results, Try.results16, go_sem, r0, r1, r2, r3, r4, r5, r6, q0, q1, q2, q3, q4, q5, q6]) rfl ?_
      have hge := HGE.out
      have hk9 : ∀ j : Nat, j ≠ g6 → j ≠ g7 → w9.heap[j]? = wr.heap[j]? := fun j h6 h7 => (HP9.out.eq j h6 h7).trans (HDE.out j)
      obtain ⟨x1, y1, hh1, hh2⟩ : ∃ x1 y1, HalfOf W n x y x1 y1 ∧ HalfOf W n y1 x1 B A := by
        rcases HK.out.2.1 with ⟨h, _⟩ | ⟨h, _⟩ | ⟨_, h⟩
        · have := HKE.out; omega
        · have := HKE.out; omega
        · exact h
      obtain ⟨o1, o2, o3, o4⟩ : KA = Ka ∧ KB = Kb ∧ pA = pa ∧ pB = pb := by
        rcases HK.out.2.2 with ⟨h, _⟩ | ⟨_, h⟩
        · have := HKE.out; omega
        · exact h
      subst o1 o2 o3 o4
      refine ⟨x1, y1, A, B, F1, Au, Ao, Ai, Av, Aq, Aj, cu, co, ci, cv, cq, cj, rfl, hh1, hh2, HX.out.p.s.move (fun j hj _ => hk9 j (HX.out.p.out j hj).2.2.1 (HX.out.p.out j hj).2.2.2) (by rw [HP9.out.size, HDS.out]; exact Nat.le_refl _), (HX.out.p.below.trans (HBD.out.mono HX.out.p.below.size)).trans (HP9.out.below.mono (by omega)), by rw [HP9.out.size, HDS.out]; exact HSZ.out, fun j hj ha hb => (hk9 j (by omega) (by omega)).trans (HX.out.kept j hj ha hb), HX.out.new⟩
end Go.Proofs.Ytcdhjkkdenhmcaa
