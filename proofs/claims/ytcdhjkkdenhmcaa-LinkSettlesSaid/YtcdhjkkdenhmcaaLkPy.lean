/- link: play. -/
import Derived.Test.YtcdhjkkdenhmcaaLkSt
import Derived.Test.YtcdhjkkdenhmcaaLkPl
namespace Go.Proofs.Ytcdhjkkdenhmcaa
open Go.RowKit Go.Proofs.YtcdhjkkdenhmcaaW.PrintWords Go.Proofs.YtcdhjkkdenhmcaaW.PrintLast Go.Proofs.YtcdhjkkdenhmcaaW.PrintMore
set_option linter.unusedVariables false
set_option linter.unusedSimpArgs false
/-- Two sides in memory. -/
structure Sides (w : World) (lo W n : Nat) (x y : Sd) (Ka Kb F : Nat → Prop) (pa pb : Nat) (Au Ao Ai Av Aq Aj : Option Addr) (cu co ci cv cq cj : Nat) : Prop where
  inv : Inv W n x y
  two : Two w lo Ka Kb (enOf W x) (enOf W y) pa pb
  sx : SideAt w F x Au cu Ao co Ai ci
  sy : SideAt w F y Av cv Aq cq Aj cj
  ap : ∀ k, F k → ¬ Ka k ∧ ¬ Kb k
section
variable {w w1 : World} {lo W n : Nat} {x y : Sd} {Ka Kb F : Nat → Prop} {pa pb : Nat} {Au Ao Ai Av Aq Aj : Option Addr} {cu co ci cv cq cj : Nat}
theorem Sides.flip (h : Sides w lo W n x y Ka Kb F pa pb Au Ao Ai Av Aq Aj cu co ci cv cq cj) : Sides w lo W n y x Kb Ka F pb pa Av Aq Aj Au Ao Ai cv cq cj cu co ci :=
  ⟨h.inv.flip, h.two.flip, h.sy, h.sx, fun k hk => ⟨(h.ap k hk).2, (h.ap k hk).1⟩⟩
theorem Sides.move (h : Sides w lo W n x y Ka Kb F pa pb Au Ao Ai Av Aq Aj cu co ci cv cq cj) (hm : ∀ k, Ka k ∨ Kb k ∨ F k → k < w.heap.size → w1.heap[k]? = w.heap[k]?) (hs : w.heap.size ≤ w1.heap.size) : Sides w1 lo W n x y Ka Kb F pa pb Au Ao Ai Av Aq Aj cu co ci cv cq cj :=
  ⟨h.inv, ⟨h.two.a.move (fun k hk => hm k (.inl hk) (h.two.a.kb k hk).2) hs, h.two.b.move (fun k hk => hm k (.inr (.inl hk)) (h.two.b.kb k hk).2) hs, h.two.ap⟩, h.sx.step (fun k hk hlt => hm k (.inr (.inr hk)) hlt), h.sy.step (fun k hk hlt => hm k (.inr (.inr hk)) hlt), h.ap⟩
theorem Sides.fine (h : Sides w lo W n x y Ka Kb F pa pb Au Ao Ai Av Aq Aj cu co ci cv cq cj) (hn : n ≤ 1000) : EnFine (enOf W x) := h.inv.fine hn
end
/-- What the loop of play keeps: two sides, their boxes, the results' boxes. -/
structure Play (w wr : World) (lo W n : Nat) (x y : Sd) (Ka Kb F : Nat → Prop) (pa pb : Nat) (Au Ao Ai Av Aq Aj : Option Addr) (cu co ci cv cq cj : Nat) (g3 g4 g6 g7 : Nat) : Prop where
  s : Sides wr lo W n x y Ka Kb F pa pb Au Ao Ai Av Aq Aj cu co ci cv cq cj
  b3 : wr.heap[g3]? = some (.cells (sdC x pa Au cu Ao co Ai ci) 43 (0, 0))
  b4 : wr.heap[g4]? = some (.cells (sdC y pb Av cv Aq cq Aj cj) 43 (0, 0))
  b6 : wr.heap[g6]? = some (.cells zeroC 43 (0, 0))
  b7 : wr.heap[g7]? = some (.cells zeroC 43 (0, 0))
  out : ∀ k, Ka k ∨ Kb k ∨ F k → k ≠ g3 ∧ k ≠ g4 ∧ k ≠ g6 ∧ k ≠ g7
  below : Below w.heap.size w wr
theorem Play.flip {w wr : World} {lo W n : Nat} {x y : Sd} {Ka Kb F : Nat → Prop} {pa pb : Nat} {Au Ao Ai Av Aq Aj : Option Addr} {cu co ci cv cq cj g3 g4 g6 g7 : Nat} (h : Play w wr lo W n x y Ka Kb F pa pb Au Ao Ai Av Aq Aj cu co ci cv cq cj g3 g4 g6 g7) :
    Play w wr lo W n y x Kb Ka F pb pa Av Aq Aj Au Ao Ai cv cq cj cu co ci g4 g3 g6 g7 :=
  ⟨h.s.flip, h.b4, h.b3, h.b6, h.b7, fun k hk => by
    have := h.out k (hk.elim (fun h => .inr (.inl h)) (fun h => h.elim .inl (fun h => .inr (.inr h))))
    exact ⟨this.2.1, this.1, this.2.2⟩, h.below⟩
/-- Behind a step: the boxes stand, the sides are others. -/
theorem Play.step {w wr w1 : World} {lo W n : Nat} {x y x' y' : Sd} {Ka Kb F F2 Ka' F' : Nat → Prop} {pa pb : Nat} {Au Ao Ai Av Aq Aj Au' Ao' Ai' Av' Aq' Aj' : Option Addr} {cu co ci cv cq cj cu' co' ci' cv' cq' cj' g3 g4 g6 g7 : Nat} (h : Play w wr lo W n x y Ka Kb F pa pb Au Ao Ai Av Aq Aj cu co ci cv cq cj g3 g4 g6 g7) (hlo : w.heap.size ≤ lo)
    (h6 : w.heap.size ≤ g6) (h7 : w.heap.size ≤ g7) (h3 : w.heap.size ≤ g3) (h4 : w.heap.size ≤ g4) (hI : Inv W (n + 1) x' y') (hT : Two w1 lo Ka' Kb (enOf W x') (enOf W y') pa pb) (hx : SideAt w1 F' x' Au' cu' Ao' co' Ai' ci') (hy : SideAt w1 F' y' Av' cv' Aq' cq' Aj' cj') (hM : Moved wr w1 lo Ka Ka') (hF : ∀ k, F' k → (F2 k ∧ k < wr.heap.size) ∨ wr.heap.size ≤ k) (hF2 : ∀ k, F2 k → F k ∨ k < w.heap.size) (hap : ∀ k, F' k → ¬ Ka' k ∧ ¬ Kb k) :
    Sides w1 lo W (n + 1) x' y' Ka' Kb F' pa pb Au' Ao' Ai' Av' Aq' Aj' cu' co' ci' cv' cq' cj' ∧ w1.heap[g3]? = wr.heap[g3]? ∧ w1.heap[g4]? = wr.heap[g4]? ∧ w1.heap[g6]? = wr.heap[g6]? ∧ w1.heap[g7]? = wr.heap[g7]? ∧ (∀ k, Ka' k ∨ Kb k ∨ F' k → k ≠ g3 ∧ k ≠ g4 ∧ k ≠ g6 ∧ k ≠ g7) ∧ Below w.heap.size w w1 := by
  have l3 := blk_lt h.b3
  have l4 := blk_lt h.b4
  have l6 := blk_lt h.b6
  have l7 := blk_lt h.b7
  have kp : ∀ g, g < wr.heap.size → (g = g3 ∨ g = g4 ∨ g = g6 ∨ g = g7) → w1.heap[g]? = wr.heap[g]? := fun g hg hh => hM.kept.2 g hg (fun hk => by
    have := h.out g (.inl hk); omega)
  refine ⟨⟨hI, hT, hx, hy, hap⟩, kp _ l3 (.inl rfl), kp _ l4 (.inr (.inl rfl)), kp _ l6 (.inr (.inr (.inl rfl))), kp _ l7 (.inr (.inr (.inr rfl))), fun k hk => ?_, h.below.trans (hM.below.mono hlo)⟩
  rcases hk with hk | hk | hk
  · rcases hM.new k hk with hk | hk
    · exact h.out k (.inl hk)
    · exact ⟨by omega, by omega, by omega, by omega⟩
  · exact h.out k (.inr (.inl hk))
  · rcases hF k hk with hk | hk
    · rcases hF2 k hk.1 with hk2 | hk2
      · exact h.out k (.inr (.inr hk2))
      · exact ⟨by omega, by omega, by omega, by omega⟩
    · exact ⟨by omega, by omega, by omega, by omega⟩
theorem Play.stay {w wr w1 : World} {lo W n : Nat} {x y : Sd} {Ka Kb F : Nat → Prop} {pa pb : Nat} {Au Ao Ai Av Aq Aj : Option Addr} {cu co ci cv cq cj g3 g4 g6 g7 : Nat} (h : Play w wr lo W n x y Ka Kb F pa pb Au Ao Ai Av Aq Aj cu co ci cv cq cj g3 g4 g6 g7) (hb : Below wr.heap.size wr w1) :
    Play w w1 lo W n x y Ka Kb F pa pb Au Ao Ai Av Aq Aj cu co ci cv cq cj g3 g4 g6 g7 :=
  ⟨h.s.move (fun k _ hlt => hb.block k hlt) hb.size, (hb.block _ (blk_lt h.b3)).trans h.b3, (hb.block _ (blk_lt h.b4)).trans h.b4, (hb.block _ (blk_lt h.b6)).trans h.b6, (hb.block _ (blk_lt h.b7)).trans h.b7, h.out, h.below.trans (hb.mono h.below.size)⟩
theorem play_put {w w7 w8 w9 : World} {lo W n : Nat} {x y : Sd} {Ka Kb F : Nat → Prop} {pa pb : Nat} {Au Ao Ai Av Aq Aj : Option Addr} {cu co ci cv cq cj g3 g4 g6 g7 : Nat} (hs : Sides w7 lo W n x y Ka Kb F pa pb Au Ao Ai Av Aq Aj cu co ci cv cq cj) (hout : ∀ k, Ka k ∨ Kb k ∨ F k → k ≠ g3 ∧ k ≠ g4 ∧ k ≠ g6 ∧ k ≠ g7) (hbl : Below w.heap.size w w7)
    (b6 : w7.heap[g6]? = some (.cells zeroC 43 (0, 0))) (b7 : w7.heap[g7]? = some (.cells zeroC 43 (0, 0))) (s1 : w8.heap[g3]? = some (.cells (sdC x pa Au cu Ao co Ai ci) 43 (0, 0))) (s2 : ∀ k : Nat, k ≠ g3 → w8.heap[k]? = w7.heap[k]?) (s3 : w8.heap.size = w7.heap.size) (s4 : ∀ B, B ≤ g3 → Below B w7 w8)
    (t1 : w9.heap[g4]? = some (.cells (sdC y pb Av cv Aq cq Aj cj) 43 (0, 0))) (t2 : ∀ k : Nat, k ≠ g4 → w9.heap[k]? = w8.heap[k]?) (t3 : w9.heap.size = w8.heap.size) (t4 : ∀ B, B ≤ g4 → Below B w8 w9) (h34 : g3 ≠ g4 ∧ g6 ≠ g3 ∧ g6 ≠ g4 ∧ g7 ≠ g3 ∧ g7 ≠ g4) (h3 : w.heap.size ≤ g3) (h4 : w.heap.size ≤ g4) :
    Play w w9 lo W n x y Ka Kb F pa pb Au Ao Ai Av Aq Aj cu co ci cv cq cj g3 g4 g6 g7 :=
  ⟨hs.move (fun k hk _ => by have := hout k hk; exact (t2 k this.2.1).trans (s2 k this.1)) (by rw [t3, s3]; exact Nat.le_refl _), (t2 g3 h34.1).trans s1, t1, (t2 g6 h34.2.2.1).trans ((s2 g6 h34.2.1).trans b6), (t2 g7 h34.2.2.2.2).trans ((s2 g7 h34.2.2.2.1).trans b7), hout, (hbl.trans (s4 _ h3)).trans (t4 _ h4)⟩
def PlayPost (w : World) (W n : Nat) (e : Ending) (w' : World) : Prop :=
  ∃ (lo : Nat) (x y : Sd) (Ka Kb F : Nat → Prop) (pa pb : Nat) (Au Ao Ai Av Aq Aj : Option Addr) (cu co ci cv cq cj : Nat), e = .returned (.tuple #[.agg (sdC x pa Au cu Ao co Ai ci), .agg (sdC y pb Av cv Aq cq Aj cj), .bool true]) ∧ Sides w' lo W n x y Ka Kb F pa pb Au Ao Ai Av Aq Aj cu co ci cv cq cj ∧ w.heap.size ≤ lo ∧ Below w.heap.size w w'
theorem zero_side (w : World) (F : Nat → Prop) : SideAt w F Sd.new none 0 none 0 none 0 := ⟨Nat.le_refl _, Kd.F_nil _ _ _, Nat.le_refl _, Kd.F_nil _ _ _, Nat.le_refl _, Kd.F_nil _ _ _⟩
set_option maxRecDepth 100000 in
set_option maxHeartbeats 8000000 in
theorem play_calls (w : World) (W : Nat) (A : Option Addr) (c : Nat) (ops : List OpM) (hx : Kd.F kOp w (fun k => k < w.heap.size) A ops.length ops) (h1 : 1 ≤ W) (h2 : W ≤ 64) (hl : ops.length ≤ 120) (hp : ∀ o ∈ ops, o.2.2.2.2.length ≤ 100) :
    Calls Try.prog 15 #[.int .i64 W, .slice A ops.length c] w (PlayPost w W ops.length) := by
  have HX := Aside0.mk hx
  have HW1 := Lib.hid h1
  have HW2 := Lib.hid h2
  have HL := Lib.hid hl
  have HP := Lib.hid hp
  have ol : (ops.length : Int) ≤ 120 := by omega
  clear hx h1 h2 hl hp
  go_enter Try.func15, Try.ntmps15
  go_upto_region 1 with (fail)
  obtain ⟨w0, hw0⟩ : ∃ w0, w0 = (w.alloc (.cells zeroC 43)).alloc (.cells zeroC 43) := ⟨_, rfl⟩
  have hw0' := hw0
  simp only [zeroC] at hw0'
  rw [← hw0']
  have HB0 := Aside0.mk (show Below w.heap.size w w0 by rw [hw0]; exact below_alloc (below_alloc (Below.refl _ _) _) _)
  have e0 := alloc_sz w (.cells zeroC 43) rfl
  have HS0 := Lib.hid (show w0.heap.size = w.heap.size + 1 + 1 by rw [hw0]; exact alloc_sz _ _ e0)
  have hg6 : w0.heap[w.heap.size]? = some (.cells zeroC 43 (0, 0)) := by rw [hw0]; exact alloc_le _ _ (alloc_at w _ rfl) (by omega)
  have hg7 : w0.heap[w.heap.size + 1]? = some (.cells zeroC 43 (0, 0)) := by rw [hw0]; exact alloc_at _ _ e0
  obtain ⟨g6, e6⟩ : ∃ g6, g6 = w.heap.size := ⟨_, rfl⟩
  obtain ⟨g7, e7⟩ : ∃ g7, g7 = w.heap.size + 1 := ⟨_, rfl⟩
  rw [← e7] at hg7 ⊢
  rw [← e6] at hg6 ⊢
  have HG6 := Aside0.mk hg6
  have HG7 := Aside0.mk hg7
  have HE := Lib.hid (show g6 = w.heap.size ∧ g7 = w.heap.size + 1 from ⟨e6, e7⟩)
  clear hw0 hw0' e0 hg6 hg7 e6 e7
  go_upto_region 3 with (first
    | (go_at_call 7; refine (linkNew_calls w1 W HW1.out HW2.out).mono ?_; rintro e w2 ⟨rfl, hE, hs, hb⟩; have HT2 := Aside0.mk (Two.start HE1.out HS1.out hE hb); have HB2 := Aside0.mk (HB1.out.trans (hb.mono (by have := HS1.out; omega))); have HS2 := Lib.hid hs; clear hE hs hb)
    | (go_at_call 7; refine (linkNew_calls w0 W HW1.out HW2.out).mono ?_; rintro e w1 ⟨rfl, hE, hs, hb⟩; have HE1 := Aside0.mk hE; have HS1 := Lib.hid hs; have HB1 := Aside0.mk hb; clear hE hs hb))
  obtain ⟨pa, epa⟩ : ∃ pa, pa = w0.heap.size := ⟨_, rfl⟩
  obtain ⟨pb, epb⟩ : ∃ pb, pb = w1.heap.size := ⟨_, rfl⟩
  have HT3 := Aside0.mk (show Two w2 pa (fun k => k = pa) (fun k => k = pb) (En.new W) (En.new W) pa pb by have h := HT2.out; rw [← epb, ← epa] at h; exact h)
  rw [← epa, ← epb]
  have HPP := Lib.hid (show pa = w.heap.size + 1 + 1 ∧ pb = w.heap.size + 1 + 1 + 1 ∧ w2.heap.size = w.heap.size + 1 + 1 + 1 + 1 by have := HS0.out; have := HS1.out; have := HS2.out; omega)
  clear HT2 HE1 epa epb
  go_upto_region 4 with (fail)
  obtain ⟨w3, hw3⟩ : ∃ w3, w3 = (w2.alloc (.cells #[.pointer (some ⟨pa, 0, none⟩), .slice none 0 0, .slice none 0 0, .slice none 0 0, .int .i64 0, .int .i64 0, .int .i64 0] 43)).alloc (.cells #[.pointer (some ⟨pb, 0, none⟩), .slice none 0 0, .slice none 0 0, .slice none 0 0, .int .i64 0, .int .i64 0, .int .i64 0] 43) := ⟨_, rfl⟩
  rw [← hw3]
  obtain ⟨g3, e3⟩ : ∃ g3, g3 = w2.heap.size := ⟨_, rfl⟩
  obtain ⟨g4, e4⟩ : ∃ g4, g4 = w2.heap.size + 1 := ⟨_, rfl⟩
  have e1 := alloc_sz w2 (.cells #[.pointer (some ⟨pa, 0, none⟩), .slice none 0 0, .slice none 0 0, .slice none 0 0, .int .i64 0, .int .i64 0, .int .i64 0] 43) rfl
  have hg3 : w3.heap[w2.heap.size]? = some (.cells (sdC Sd.new pa none 0 none 0 none 0) 43 (0, 0)) := by rw [hw3]; exact alloc_le _ _ (alloc_at w2 _ rfl) (by omega)
  have hg4 : w3.heap[w2.heap.size + 1]? = some (.cells (sdC Sd.new pb none 0 none 0 none 0) 43 (0, 0)) := by rw [hw3]; exact alloc_at _ _ e1
  have hb3 : Below w2.heap.size w2 w3 := by rw [hw3]; exact below_alloc (below_alloc (Below.refl _ _) _) _
  rw [← e4] at hg4 ⊢
  rw [← e3] at hg3 ⊢
  have HGE := Lib.hid (show g6 = w.heap.size ∧ g7 = w.heap.size + 1 ∧ pa = w.heap.size + 1 + 1 ∧ pb = w.heap.size + 1 + 1 + 1 ∧ g3 = w.heap.size + 1 + 1 + 1 + 1 ∧ g4 = w.heap.size + 1 + 1 + 1 + 1 + 1 by have := HE.out; have := HPP.out; omega)
  have HP0 := Aside0.mk (show Play w w3 pa W 0 Sd.new Sd.new (fun k => k = pa) (fun k => k = pb) (fun _ => False) pa pb none none none none none none 0 0 0 0 0 0 g3 g4 g6 g7 from
    ⟨⟨Inv.new HW1.out HW2.out, HT3.out.stay hb3, zero_side _ _, zero_side _ _, fun k hk => hk.elim⟩, hg3, hg4, (hb3.block _ (by have := HGE.out; have := HPP.out; omega)).trans ((HB2.out.block _ (by have := HGE.out; have := HS0.out; omega)).trans HG6.out), (hb3.block _ (by have := HGE.out; have := HPP.out; omega)).trans ((HB2.out.block _ (by have := HGE.out; have := HS0.out; omega)).trans HG7.out), fun k hk => by
      have := HGE.out
      rcases hk with hk | hk | hk
      · omega
      · omega
      · exact hk.elim, (HB0.out.trans (HB2.out.mono HB0.out.size)).trans (hb3.mono (by have := HPP.out; omega))⟩)
  clear hw3 hg3 hg4 hb3 e1 e3 e4 HT3 HPP HB0 HB1 HB2 HS0 HS1 HS2 HG6 HG7 HE
  go_wp2
  go_loopw [40] (fun v wr => ∃ k : Nat, v = .int .i64 k ∧ Hid (k ≤ ops.length) ∧ Aside0 (∃ (x y : Sd) (Ka Kb F : Nat → Prop) (Au Ao Ai Av Aq Aj : Option Addr) (cu co ci cv cq cj : Nat), Play w wr pa W k x y Ka Kb F pa pb Au Ao Ai Av Aq Aj cu co ci cv cq cj g3 g4 g6 g7)) (fun v _ => ops.length - (intOf v).toNat)
  case atStart => exact ⟨0, rfl, Nat.zero_le _, ⟨_, _, _, _, _, _, _, _, _, _, _, _, _, _, _, _, _, HP0.out⟩⟩
  case round =>
    obtain ⟨k, rfl, HK, HPL0⟩ := hrel
    obtain ⟨x, y, Ka, Kb, F, Au, Ao, Ai, Av, Aq, Aj, cu, co, ci, cv, cq, cj, hPl⟩ := HPL0.out
    have HR := Aside0.mk hPl
    clear HPL0 hPl HP0
    by_cases hlt : k < ops.length
    · obtain ⟨ad, B, d, rfl, h0, h1, h2, h3, h4, hd, hF⟩ := OP_cell (Kd.F_step HX.out (fun k hk _ => HR.out.below.block k hk)) hlt
      have k0 : (0 : Int) ≤ k := by omega
      have k1 : (k : Int) < ops.length := by omega
      have HPM := Lib.hid (HP.out _ (go_mem hlt))
      obtain ⟨⟨kind, who, kk, nn, p⟩, hq⟩ : ∃ q, q = go_ ops k := ⟨_, rfl⟩
      rw [← hq] at h0 h1 h2 h3 h4 hd hF HPM
      simp only at h0 h1 h2 h3 h4 hd hF HPM
      have HPF := Aside0.mk hF
      have HPD := Lib.hid hd
      have HLT := Lib.hid hlt
      clear hF hd hq hlt
      go_upto_region 10 with (fail)
      obtain ⟨wb, hwb⟩ : ∃ wb, wb = wr.alloc (.cells (opC kind who kk nn B p.length d) 59) := ⟨_, rfl⟩
      rw [← hwb]
      obtain ⟨g5, e5⟩ : ∃ g5, g5 = wr.heap.size := ⟨_, rfl⟩
      rw [← e5]
      have hbb : Below wr.heap.size wr wb := by rw [hwb]; exact below_alloc (Below.refl _ _) _
      have HG5 := Aside0.mk (show wb.heap[g5]? = some (.cells (opC kind who kk nn B p.length d) 59 (0, 0)) by rw [hwb, e5]; exact heap_alloc_new _ _)
      have HQ := Aside0.mk (HR.out.stay hbb)
      have HPFB := Aside0.mk (Kd.F_step HPF.out (fun k _ hlt => hbb.block k hlt))
      clear hwb e5 hbb h0 h1 h2 h3 h4 HPF HR
      have r0 := blk_cell HG5.out 0
      have r1 := blk_cell HG5.out 1
      have r2 := blk_cell HG5.out 2
      have r3 := blk_cell HG5.out 3
      have r4 := blk_cell HG5.out 4
      obtain ⟨⟨s0, s1, s2, s3, s4, s5, s6⟩, _⟩ := cells7 HQ.out.b3
      obtain ⟨⟨z0, z1, z2, z3, z4, z5, z6⟩, _⟩ := cells7 HQ.out.b4
      by_cases hw : who = 0
      · have hwc : (who == 0) = true := beq_iff_eq.2 hw
        have hwd : decide (who = 0) = true := decide_eq_true hw
        subst hw
        go_upto_region 11 with (fail)
        go_upto_region 13 with (first
          | (refine store7 rfl rfl _ _ rfl y' pb Av' Aq' Aj' cv' cq' cj' rfl rfl HE48.out ?_; intro w9 q1 q2 q3 q4; have HP9 := Aside0.mk (play_put HS7.out HOUT.out HBL.out HE6.out HE7.out T1.out T2.out T3.out T4.out q1 q2 q3 q4 (by have := HGE.out; omega) (by have := HGE.out; omega) (by have := HGE.out; omega)); clear q1 q2 q3 q4)
          | (refine store7 rfl rfl _ _ rfl x' pa Au' Ao' Ai' cu' co' ci' rfl rfl HE3.out ?_; intro w8 q1 q2 q3 q4; have T1 := Aside0.mk q1; have T2 := Lib.hid q2; have T3 := Lib.hid q3; have T4 := Lib.hid q4; have HE48 := Aside0.mk ((q2 g4 (by have := HGE.out; omega)).trans HE4.out); clear q1 q2 q3 q4)
          | (go_at_call 24; refine (step_calls wb pa Ka Kb (fun j => F j ∨ j < w.heap.size) W k x y pa pb Au Ao Ai Av Aq Aj cu co ci cv cq cj B d p kind _ kk nn HQ.out.s.inv (by have := HK.out; have := HL.out; omega) HQ.out.s.two (HQ.out.s.sx.mono (fun k hk _ => .inl hk)) (HQ.out.s.sy.mono (fun k hk _ => .inl hk)) (Kd.F_mono HPFB.out (fun k hk => .inr hk)) HPD.out HPM.out (fun j hj => hj.elim (HQ.out.s.ap j) (fun h => ⟨fun h2 => by have := (HQ.out.s.two.a.kb j h2).1; have := HGE.out; omega, fun h2 => by have := (HQ.out.s.two.b.kb j h2).1; have := HGE.out; omega⟩))).mono ?_; rintro e w7 ⟨x', y', Ka', F', Au', Ao', Ai', Av', Aq', Aj', cu', co', ci', cv', cq', cj', rfl, hI, hT, hx, hy, hM, hF', hap⟩; obtain ⟨hs, e3, e4, e6, e7, hout, hbl⟩ := HQ.out.step (by have := HGE.out; omega) (by have := HGE.out; omega) (by have := HGE.out; omega) (by have := HGE.out; omega) (by have := HGE.out; omega) hI hT hx hy hM hF' (fun k hk => hk) hap; have HS7 := Aside0.mk hs; have HE3 := Aside0.mk (e3.trans HQ.out.b3); have HE4 := Aside0.mk (e4.trans HQ.out.b4); have HE6 := Aside0.mk (e6.trans HQ.out.b6); have HE7 := Aside0.mk (e7.trans HQ.out.b7); have HOUT := Lib.hid hout; have HBL := Aside0.mk hbl; clear hI hT hx hy hM hF' hap hs e3 e4 e6 e7 hout hbl))
        have HPA := Aside0.mk (HP9.out)
        clear r0 r1 r2 r3 r4 s0 s1 s2 s3 s4 s5 s6 z0 z1 z2 z3 z4 z5 z6 hwc hwd  HP9 HQ HS7 HE3 HE4 HE6 HE7 HE48 HOUT HBL T1 T2 T3 T4 HG5 
        obtain ⟨⟨s0, s1, s2, s3, s4, s5, s6⟩, _⟩ := cells7 HPA.out.b3
        have HFA := Lib.hid (HPA.out.s.fine (by have := HK.out; have := HL.out; omega))
        have HFB := Lib.hid (HPA.out.s.flip.fine (by have := HK.out; have := HL.out; omega))
        go_upto_region 15 with (first
          | (go_at_call 25; refine (right_calls w10 pa Kb W y' pb Av' Aq' Aj' cv' cq' cj' HFB.out HPB.out.s.two.b HFB.out.gl).mono ?_; rintro e w11 ⟨rfl, hb⟩; have HPC := Aside0.mk (HPB.out.stay hb); clear hb)
          | (go_at_call 25; refine (right_calls w9 pa Ka' W x' pa Au' Ao' Ai' cu' co' ci' HFA.out HPA.out.s.two.a HFA.out.gl).mono ?_; rintro e w10 ⟨rfl, hb⟩; have HPB := Aside0.mk (HPA.out.stay hb); obtain ⟨⟨z0, z1, z2, z3, z4, z5, z6⟩, _⟩ := cells7 HPB.out.b4; clear hb))
        clear s0 s1 s2 s3 s4 s5 s6 z0 z1 z2 z3 z4 z5 z6
        go_wp2
        go_roundw
        case rel => exact ⟨k + 1, by go_num, HLT.out, ⟨_, _, _, _, _, _, _, _, _, _, _, _, _, _, _, _, _, HPC.out⟩⟩
        case measure => have := HLT.out; simp [intOf]; omega
      · have hwc : (who == 0) = false := beq_eq_false_iff_ne.2 hw
        have hwd : decide (who = 0) = false := decide_eq_false hw
        have HQF := Aside0.mk HQ.out.flip
        go_upto_region 12 with (fail)
        go_upto_region 13 with (first
          | (refine store7 rfl rfl _ _ rfl x' pa Au' Ao' Ai' cu' co' ci' rfl rfl HE48.out ?_; intro w9 q1 q2 q3 q4; have HP9 := Aside0.mk (play_put HS7.out HOUT.out HBL.out HE6.out HE7.out T1.out T2.out T3.out T4.out q1 q2 q3 q4 (by have := HGE.out; omega) (by have := HGE.out; omega) (by have := HGE.out; omega)); clear q1 q2 q3 q4)
          | (refine store7 rfl rfl _ _ rfl y' pb Av' Aq' Aj' cv' cq' cj' rfl rfl HE3.out ?_; intro w8 q1 q2 q3 q4; have T1 := Aside0.mk q1; have T2 := Lib.hid q2; have T3 := Lib.hid q3; have T4 := Lib.hid q4; have HE48 := Aside0.mk ((q2 g3 (by have := HGE.out; omega)).trans HE4.out); clear q1 q2 q3 q4)
          | (go_at_call 24; refine (step_calls wb pa Kb Ka (fun j => F j ∨ j < w.heap.size) W k y x pb pa Av Aq Aj Au Ao Ai cv cq cj cu co ci B d p kind _ kk nn HQF.out.s.inv (by have := HK.out; have := HL.out; omega) HQF.out.s.two (HQF.out.s.sx.mono (fun k hk _ => .inl hk)) (HQF.out.s.sy.mono (fun k hk _ => .inl hk)) (Kd.F_mono HPFB.out (fun k hk => .inr hk)) HPD.out HPM.out (fun j hj => hj.elim (HQF.out.s.ap j) (fun h => ⟨fun h2 => by have := (HQF.out.s.two.a.kb j h2).1; have := HGE.out; omega, fun h2 => by have := (HQF.out.s.two.b.kb j h2).1; have := HGE.out; omega⟩))).mono ?_; rintro e w7 ⟨y', x', Ka', F', Av', Aq', Aj', Au', Ao', Ai', cv', cq', cj', cu', co', ci', rfl, hI, hT, hx, hy, hM, hF', hap⟩; obtain ⟨hs, e3, e4, e6, e7, hout, hbl⟩ := HQF.out.step (by have := HGE.out; omega) (by have := HGE.out; omega) (by have := HGE.out; omega) (by have := HGE.out; omega) (by have := HGE.out; omega) hI hT hx hy hM hF' (fun k hk => hk) hap; have HS7 := Aside0.mk hs; have HE3 := Aside0.mk (e3.trans HQF.out.b3); have HE4 := Aside0.mk (e4.trans HQF.out.b4); have HE6 := Aside0.mk (e6.trans HQF.out.b6); have HE7 := Aside0.mk (e7.trans HQF.out.b7); have HOUT := Lib.hid hout; have HBL := Aside0.mk hbl; clear hI hT hx hy hM hF' hap hs e3 e4 e6 e7 hout hbl))
        have HPA := Aside0.mk (HP9.out.flip)
        clear r0 r1 r2 r3 r4 s0 s1 s2 s3 s4 s5 s6 z0 z1 z2 z3 z4 z5 z6 hwc hwd hw HP9 HQ HS7 HE3 HE4 HE6 HE7 HE48 HOUT HBL T1 T2 T3 T4 HG5 HQF
        obtain ⟨⟨s0, s1, s2, s3, s4, s5, s6⟩, _⟩ := cells7 HPA.out.b3
        have HFA := Lib.hid (HPA.out.s.fine (by have := HK.out; have := HL.out; omega))
        have HFB := Lib.hid (HPA.out.s.flip.fine (by have := HK.out; have := HL.out; omega))
        go_upto_region 15 with (first
          | (go_at_call 25; refine (right_calls w10 pa Ka' W y' pb Av' Aq' Aj' cv' cq' cj' HFB.out HPB.out.s.two.b HFB.out.gl).mono ?_; rintro e w11 ⟨rfl, hb⟩; have HPC := Aside0.mk (HPB.out.stay hb); clear hb)
          | (go_at_call 25; refine (right_calls w9 pa Ka W x' pa Au' Ao' Ai' cu' co' ci' HFA.out HPA.out.s.two.a HFA.out.gl).mono ?_; rintro e w10 ⟨rfl, hb⟩; have HPB := Aside0.mk (HPA.out.stay hb); obtain ⟨⟨z0, z1, z2, z3, z4, z5, z6⟩, _⟩ := cells7 HPB.out.b4; clear hb))
        clear s0 s1 s2 s3 s4 s5 s6 z0 z1 z2 z3 z4 z5 z6
        go_wp2
        go_roundw
        case rel => exact ⟨k + 1, by go_num, HLT.out, ⟨_, _, _, _, _, _, _, _, _, _, _, _, _, _, _, _, _, HPC.out⟩⟩
        case measure => have := HLT.out; simp [intOf]; omega
    · have HKE := Lib.hid (show k = ops.length by have := HK.out; omega)
      have k1 : ¬ (k : Int) < ops.length := by omega
      have k0 : (0 : Int) ≤ k := by omega
      clear hlt
      go_upto_region 16 with (fail)
      have HR3 := Aside0.mk HR.out.b3
      have HR4 := Aside0.mk HR.out.b4
      have HR6 := Aside0.mk HR.out.b6
      have HR7 := Aside0.mk HR.out.b7
      have HRB := Aside0.mk HR.out.below
      refine wp_region_noPanic ?_
      refine wp_region_held_drew (S := fun V => V.heap[g3]? = some (.cells (sdC x pa Au cu Ao co Ai ci) 43 (0, 0)) ∧ V.heap[g4]? = some (.cells (sdC y pb Av cv Aq cq Aj cj) 43 (0, 0))) (by kernel_rfl) (⟨HR3.out, HR4.out⟩) (fun hHeld => ?_)
      obtain ⟨wd, hwd⟩ : ∃ wd, wd = wr.drew := ⟨_, rfl⟩
      rw [← hwd] at hHeld ⊢
      have HBD := Aside0.mk (show Below wr.heap.size wr wd by rw [hwd]; exact (Below.refl _ _).drew)
      have HDE := Lib.hid (show ∀ k : Nat, wd.heap[k]? = wr.heap[k]? by rw [hwd]; exact fun _ => rfl)
      have HDS := Lib.hid (show wd.heap.size = wr.heap.size by rw [hwd]; rfl)
      clear hwd
      have HZ6 := Aside0.mk ((HDE.out g6).trans HR6.out)
      have HZ7 := Aside0.mk ((HDE.out g7).trans HR7.out)
      refine wpAnyH_take (i := 0) (v := ?_) rfl (by kernel_rfl) (by kernel_rfl) (by kernel_rfl) (fun _ _ _ h => h) (Or.inl ⟨by rfl, ?_⟩) (by assumption) ?_
      rotate_left 1
      · first | (intro w hSw; obtain ⟨⟨r0, r1, r2, r3, r4, r5, r6⟩, _⟩ := cells7 hSw.1; go_simp; done) | (intro w hSw; obtain ⟨⟨r0, r1, r2, r3, r4, r5, r6⟩, _⟩ := cells7 hSw.1; go_simp; with_reducible rfl)
      try simp only [Act.put, List.getElem_toArray, List.getElem_cons_zero, List.getElem_cons_succ, List.setIfInBounds_toArray, List.set_cons_zero, List.set_cons_succ]
      refine wpAnyH_take (i := 1) (v := ?_) rfl (by kernel_rfl) (by kernel_rfl) (by kernel_rfl) (fun _ _ _ h => h) (Or.inl ⟨by rfl, ?_⟩) (by assumption) ?_
      rotate_left 1
      · first | (intro w hSw; obtain ⟨⟨r0, r1, r2, r3, r4, r5, r6⟩, _⟩ := cells7 hSw.2; go_simp; done) | (intro w hSw; obtain ⟨⟨r0, r1, r2, r3, r4, r5, r6⟩, _⟩ := cells7 hSw.2; go_simp; with_reducible rfl)
      try simp only [Act.put, List.getElem_toArray, List.getElem_cons_zero, List.getElem_cons_succ, List.setIfInBounds_toArray, List.set_cons_zero, List.set_cons_succ]
      refine wpAnyH_ready (rs := [2]) (by kernel_rfl) (by simp) ?_
      refine AllReadyH.cons rfl (fun K hK => ?_) AllReadyH.nil
      have HSS := Lib.hid hHeld; obtain ⟨⟨r0, r1, r2, r3, r4, r5, r6⟩, s0, s1, s2, s3, s4, s5, s6⟩ := cells7 (show wd.heap[g6]? = some (.cells #[.pointer none, .slice none 0 0, .slice none 0 0, .slice none 0 0, .int .i64 0, .int .i64 0, .int .i64 0] 43 (0, 0)) from HZ6.out); go_simp
      refine hK.out _ _ (by rw [put7_fold]; exact ⟨(put7_ne _ (by have := HGE.out; omega) _ _ _ _ _ _ _).trans hHeld.1, (put7_ne _ (by have := HGE.out; omega) _ _ _ _ _ _ _).trans hHeld.2⟩) (fun hHeld => ?_)
      clear hK K
      try simp only [Act.put, List.getElem_toArray, List.getElem_cons_zero, List.getElem_cons_succ, List.setIfInBounds_toArray, List.set_cons_zero, List.set_cons_succ]
      generalize hw5 : (((((((wd.setCell ⟨g6, 0, none⟩ (.pointer (some ⟨pa, 0, none⟩))).setCell ⟨g6, 1, none⟩ (.slice Au x.und.length cu)).setCell ⟨g6, 2, none⟩ (.slice Ao x.out.length co)).setCell ⟨g6, 3, none⟩ (.slice Ai x.inn.length ci)).setCell ⟨g6, 4, none⟩ (.int .i64 x.so)).setCell ⟨g6, 5, none⟩ (.int .i64 x.si)).setCell ⟨g6, 6, none⟩ (.int .i64 x.tld)) = w5 at hHeld ⊢
      have HW5 := Lib.hid (show w5 = put7 wd g6 (.pointer (some ⟨pa, 0, none⟩)) (.slice Au x.und.length cu) (.slice Ao x.out.length co) (.slice Ai x.inn.length ci) (.int .i64 x.so) (.int .i64 x.si) (.int .i64 x.tld) from hw5.symm)
      have HZ7' := Aside0.mk (show w5.heap[g7]? = some (.cells #[.pointer none, .slice none 0 0, .slice none 0 0, .slice none 0 0, .int .i64 0, .int .i64 0, .int .i64 0] 43 (0, 0)) by rw [HW5.out]; exact (put7_ne _ (by have := HGE.out; omega) _ _ _ _ _ _ _).trans HZ7.out)
      clear hw5
      refine wpAnyH_ready (rs := [3]) (by kernel_rfl) (by simp) ?_
      refine AllReadyH.cons rfl (fun K hK => ?_) AllReadyH.nil
      obtain ⟨⟨r0, r1, r2, r3, r4, r5, r6⟩, s0, s1, s2, s3, s4, s5, s6⟩ := cells7 HZ7'.out; go_simp
      refine hK.out _ _ (by rw [put7_fold]; exact ⟨(put7_ne _ (by have := HGE.out; omega) _ _ _ _ _ _ _).trans hHeld.1, (put7_ne _ (by have := HGE.out; omega) _ _ _ _ _ _ _).trans hHeld.2⟩) (fun hHeld => ?_)
      clear hK K
      try simp only [Act.put, List.getElem_toArray, List.getElem_cons_zero, List.getElem_cons_succ, List.setIfInBounds_toArray, List.set_cons_zero, List.set_cons_succ]
      refine wpAnyH_take (i := 4) (v := ?_) rfl (by kernel_rfl) (by kernel_rfl) (by kernel_rfl) (fun _ _ _ h => h) (Or.inl ⟨by rfl, ?_⟩) (by assumption) ?_
      rotate_left 1
      · first | (intro w hSw; go_simp; done) | (intro w hSw; go_simp; with_reducible rfl)
      try simp only [Act.put, List.getElem_toArray, List.getElem_cons_zero, List.getElem_cons_succ, List.setIfInBounds_toArray, List.set_cons_zero, List.set_cons_succ]
      refine wpAnyH_done (by kernel_rfl) ?_ _
      refine NoPanic.normal ?_
      rw [put7_fold]
      obtain ⟨w9, hw9⟩ : ∃ w9, w9 = put7 w5 g7 (.pointer (some ⟨pb, 0, none⟩)) (.slice Av y.und.length cv) (.slice Aq y.out.length cq) (.slice Aj y.inn.length cj) (.int .i64 y.so) (.int .i64 y.si) (.int .i64 y.tld) := ⟨_, rfl⟩
      rw [← hw9]
      have hp9 : PutTwo w wd w9 g6 g7 := by rw [hw9, HW5.out]; exact put_two (by have := HGE.out; omega) (by have := HGE.out; omega) (by have := HRB.out.size; have := HDS.out; omega) _ _ _ _ _ _ _ _ _ _ _ _ _ _
      have hc6 : w9.heap[g6]? = some (.cells #[.pointer (some ⟨pa, 0, none⟩), .slice Au x.und.length cu, .slice Ao x.out.length co, .slice Ai x.inn.length ci, .int .i64 x.so, .int .i64 x.si, .int .i64 x.tld] 43 (0, 0)) := by rw [hw9, HW5.out]; exact (put7_ne _ (by have := HGE.out; omega) _ _ _ _ _ _ _).trans (put7_at (show wd.heap[g6]? = some (.cells #[.pointer none, .slice none 0 0, .slice none 0 0, .slice none 0 0, .int .i64 0, .int .i64 0, .int .i64 0] 43 (0, 0)) from HZ6.out) _ _ _ _ _ _ _)
      have hc7 : w9.heap[g7]? = some (.cells #[.pointer (some ⟨pb, 0, none⟩), .slice Av y.und.length cv, .slice Aq y.out.length cq, .slice Aj y.inn.length cj, .int .i64 y.so, .int .i64 y.si, .int .i64 y.tld] 43 (0, 0)) := by rw [hw9]; exact put7_at HZ7'.out _ _ _ _ _ _ _
      have HP9 := Aside0.mk hp9
      obtain ⟨⟨r0, r1, r2, r3, r4, r5, r6⟩, _⟩ := cells7 hc6
      obtain ⟨⟨q0, q1, q2, q3, q4, q5, q6⟩, _⟩ := cells7 hc7
      clear hw9 HW5 hp9 hc6 hc7 hHeld
      go_wp2
      (try simp only [Exit.inBlock, Exit.then])
      refine bodyPost_ret (v := .tuple #[.agg #[.pointer (some ⟨pa, 0, none⟩), .slice Au x.und.length cu, .slice Ao x.out.length co, .slice Ai x.inn.length ci, .int .i64 x.so, .int .i64 x.si, .int .i64 x.tld], .agg #[.pointer (some ⟨pb, 0, none⟩), .slice Av y.und.length cv, .slice Aq y.out.length cq, .slice Aj y.inn.length cj, .int .i64 y.so, .int .i64 y.si, .int .i64 y.tld], .bool true]) (by simp [results, Try.results15, go_sem, r0, r1, r2, r3, r4, r5, r6, q0, q1, q2, q3, q4, q5, q6]) rfl ?_
      have hge := HGE.out
      have hk9 : ∀ k : Nat, k ≠ g6 → k ≠ g7 → w9.heap[k]? = wr.heap[k]? := fun k h6 h7 => (HP9.out.eq k h6 h7).trans (HDE.out k)
      refine ⟨pa, x, y, Ka, Kb, F, pa, pb, Au, Ao, Ai, Av, Aq, Aj, cu, co, ci, cv, cq, cj, rfl, ?_, by omega, (HRB.out.trans (HBD.out.mono HRB.out.size)).trans HP9.out.below⟩
      rw [← HKE.out]
      exact HR.out.s.move (fun k hk _ => hk9 k (HR.out.out k hk).2.2.1 (HR.out.out k hk).2.2.2) (by rw [HP9.out.size, HDS.out]; exact Nat.le_refl _)
end Go.Proofs.Ytcdhjkkdenhmcaa
