/- link: LinkSettles. -/
import Derived.Test.YtcdhjkkdenhmcaaLkEx
import Derived.Test.YtcdhjkkdenhmcaaLkRu
namespace Go.Proofs.Ytcdhjkkdenhmcaa
open Go.RowKit Go.Proofs.YtcdhjkkdenhmcaaW.PrintWords Go.Proofs.YtcdhjkkdenhmcaaW.PrintLast Go.Proofs.YtcdhjkkdenhmcaaW.PrintMore
set_option linter.unusedVariables false
set_option linter.unusedSimpArgs false
/-- Packet where nothing is open: whether it is sent or not, nothing came since, behind it. -/
theorem packet_any (w : World) (lo : Nat) (K : Nat → Prop) (N : En) (p : Nat) (hF : EnFine N) (hE : IsEnd w lo K N p) (hs : ∀ m ∈ N.out, m.length ≤ 1000) (h1 : N.so ≤ N.tld) :
    Calls Try.prog 10 #[.pointer (some ⟨p, 0, none⟩)] w fun e w' => ∃ A n c b, e = .returned (.tuple #[.slice A n c, .bool b]) ∧ IsEnd w' lo K { N with rcv := false } p ∧ Moved w w' lo K K := by
  cases hr : N.rcv with
  | true =>
    refine (linkPacket_calls w lo K N p hF hE hs (.inr hr)).mono ?_
    rintro e w' ⟨A, c, rfl, _, hz, hm⟩
    exact ⟨A, _, c, true, rfl, hz, hm⟩
  | false =>
    refine (linkPacketNone_calls w lo K N p hF hE h1 hr).mono ?_
    rintro e w' ⟨rfl, hd⟩
    have e : ({ N with rcv := false } : En) = N := by rw [← hr]
    rw [e]
    obtain ⟨⟨m, rfl⟩⟩ := hd
    exact ⟨none, 0, 0, false, rfl, hE.stay (pw_below_drewN (Below.refl _ _) _), Moved.drewN _ _ _ _⟩
theorem lists_eq (w : World) (A : Option Addr) (c : Nat) (B : Option Addr) (d : Nat) (xs ys : List (List UInt8)) (he : xs = ys) (hx : kBs.C w A xs.length xs) (hy : kBs.C w B ys.length ys) :
    Calls Try.prog 13 #[.slice A xs.length c, .slice B ys.length d] w fun e w' => e = .returned (.bool true) ∧ ∃ m, w' = w.drewN m := by
  subst he
  exact lists_same w A c B d xs hx hy
/-- Two sides and their boxes. -/
structure Se (w wr : World) (lo W n : Nat) (x y : Sd) (Ka Kb F : Nat → Prop) (pa pb : Nat) (Au Ao Ai Av Aq Aj : Option Addr) (cu co ci cv cq cj : Nat) (g3 g4 : Nat) : Prop where
  s : Sides wr lo W n x y Ka Kb F pa pb Au Ao Ai Av Aq Aj cu co ci cv cq cj
  b3 : wr.heap[g3]? = some (.cells (sdC x pa Au cu Ao co Ai ci) 43 (0, 0))
  b4 : wr.heap[g4]? = some (.cells (sdC y pb Av cv Aq cq Aj cj) 43 (0, 0))
  out : ∀ k, Ka k ∨ Kb k ∨ F k → k ≠ g3 ∧ k ≠ g4
  below : Below w.heap.size w wr
section
variable {w wr w1 w7 w8 w9 : World} {lo W n : Nat} {x y x' y' : Sd} {Ka Kb F F' : Nat → Prop} {pa pb : Nat} {Au Ao Ai Av Aq Aj Au' Ao' Ai' Av' Aq' Aj' : Option Addr} {cu co ci cv cq cj cu' co' ci' cv' cq' cj' g3 g4 : Nat}
theorem Se.stay (h : Se w wr lo W n x y Ka Kb F pa pb Au Ao Ai Av Aq Aj cu co ci cv cq cj g3 g4) (hb : Below wr.heap.size wr w1) : Se w w1 lo W n x y Ka Kb F pa pb Au Ao Ai Av Aq Aj cu co ci cv cq cj g3 g4 :=
  ⟨h.s.move (fun k _ hlt => hb.block k hlt) hb.size, (hb.block _ (blk_lt h.b3)).trans h.b3, (hb.block _ (blk_lt h.b4)).trans h.b4, h.out, h.below.trans (hb.mono h.below.size)⟩
theorem Se.flip (h : Se w wr lo W n x y Ka Kb F pa pb Au Ao Ai Av Aq Aj cu co ci cv cq cj g3 g4) : Se w wr lo W n y x Kb Ka F pb pa Av Aq Aj Au Ao Ai cv cq cj cu co ci g4 g3 :=
  ⟨h.s.flip, h.b4, h.b3, fun k hk => by have := h.out k (hk.elim (fun h => .inr (.inl h)) (fun h => h.elim .inl (fun h => .inr (.inr h)))); exact ⟨this.2, this.1⟩, h.below⟩
theorem Se.sent (h : Se w wr lo W n x y Ka Kb F pa pb Au Ao Ai Av Aq Aj cu co ci cv cq cj g3 g4) (hlo : w.heap.size ≤ lo) (z : IsEnd w1 lo Ka { enOf W x with rcv := false } pa) (k : Moved wr w1 lo Ka Ka) : Se w w1 lo W n { x with rcv := false } y Ka Kb F pa pb Au Ao Ai Av Aq Aj cu co ci cv cq cj g3 g4 := by
  have i := h.s.inv
  have hF : ∀ j, F j → j < wr.heap.size → w1.heap[j]? = wr.heap[j]? := fun j hj hl => k.kept.2 j hl (h.s.ap j hj).1
  refine ⟨⟨⟨i.w1, i.w2, i.a.under x.und false i.a.und, i.b.other (Nat.le_refl _) (Nat.le_refl _) (fun _ _ => rfl), i.na, i.nb, i.ua, i.ub⟩, ⟨z, h.s.two.b.move (fun j hj => k.kept.2 j (h.s.two.b.kb j hj).2 (fun hh => h.s.two.ap j hh hj)) k.kept.1, h.s.two.ap⟩, (h.s.sx.step hF).as_ rfl rfl rfl, h.s.sy.step hF, h.s.ap⟩, ?_, ?_, h.out, h.below.trans (k.below.mono hlo)⟩
  · exact (k.kept.2 g3 (blk_lt h.b3) (fun hh => (h.out g3 (.inl hh)).1 rfl)).trans h.b3
  · exact (k.kept.2 g4 (blk_lt h.b4) (fun hh => (h.out g4 (.inl hh)).2 rfl)).trans h.b4
theorem se_put (h : Se w wr lo W n x y Ka Kb F pa pb Au Ao Ai Av Aq Aj cu co ci cv cq cj g3 g4) (s7 : Sides w7 lo W n x' y' Ka Kb F' pa pb Au' Ao' Ai' Av' Aq' Aj' cu' co' ci' cv' cq' cj') (hb7 : Below w.heap.size w w7) (sz : wr.heap.size ≤ w7.heap.size) (hn : ∀ k, F' k → (F k ∧ k < wr.heap.size) ∨ wr.heap.size ≤ k)
    (h3 : w.heap.size ≤ g3) (h4 : w.heap.size ≤ g4) (hne : g3 ≠ g4)
    (s1 : w8.heap[g3]? = some (.cells (sdC x' pa Au' cu' Ao' co' Ai' ci') 43 (0, 0))) (s2 : ∀ k : Nat, k ≠ g3 → w8.heap[k]? = w7.heap[k]?) (s3 : w8.heap.size = w7.heap.size) (s4 : ∀ b, b ≤ g3 → Below b w7 w8)
    (t1 : w9.heap[g4]? = some (.cells (sdC y' pb Av' cv' Aq' cq' Aj' cj') 43 (0, 0))) (t2 : ∀ k : Nat, k ≠ g4 → w9.heap[k]? = w8.heap[k]?) (t3 : w9.heap.size = w8.heap.size) (t4 : ∀ b, b ≤ g4 → Below b w8 w9) :
    Se w w9 lo W n x' y' Ka Kb F' pa pb Au' Ao' Ai' Av' Aq' Aj' cu' co' ci' cv' cq' cj' g3 g4 := by
  have l3 := blk_lt h.b3
  have l4 := blk_lt h.b4
  have ho : ∀ k, Ka k ∨ Kb k ∨ F' k → k ≠ g3 ∧ k ≠ g4 := fun k hk => by
    rcases hk with hk | hk | hk
    · exact h.out k (.inl hk)
    · exact h.out k (.inr (.inl hk))
    · rcases hn k hk with hk | hk
      · exact h.out k (.inr (.inr hk.1))
      · exact ⟨by omega, by omega⟩
  exact ⟨s7.move (fun k hk _ => (t2 k (ho k hk).2).trans (s2 k (ho k hk).1)) (by omega), (t2 g3 hne).trans s1, t1, ho, (hb7.trans (s4 _ h3)).trans (t4 _ h4)⟩
end
def Came (W n : Nat) (x0 y0 : Sd) (k : Nat) (x y : Sd) : Prop := x.out = x0.out ∧ y.out = y0.out ∧ ((k = 0 ∧ x = x0 ∧ y = y0) ∨ (1 ≤ k ∧ Far W n k x y))
theorem Came.next {W n k : Nat} {x0 y0 x y x1 y1 x2 y2 : Sd} (h : Came W n x0 y0 k x y) (hI : Inv W n x y) (f : HalfOf W n x y x1 y1) (g : HalfOf W n y1 x1 y2 x2) : Came W n x0 y0 (k + 1) x2 y2 := by
  obtain ⟨o1, o2, hf, hs⟩ := far_step hI f g
  refine ⟨o1.trans h.1, o2.trans h.2.1, .inr ⟨by omega, ?_⟩⟩
  rcases h.2.2 with ⟨rfl, _⟩ | ⟨hk, hh⟩
  · exact hf
  · exact hs k hk hh
set_option maxRecDepth 100000 in
set_option maxHeartbeats 8000000 in
theorem settles_walk (w : World) (A : Option Addr) (c : Nat) (ops : List OpM) (wi : Int) (hx : kOp.C w A ops.length ops) :
    Calls Try.prog 5 #[.int .i64 wi, .slice A ops.length c] w fun e w' => e = .returned (.bool true) ∧ Below w.heap.size w w' := by
  have HX := Aside0.mk (Kd.C_F heapOp hx)
  clear hx
  go_enter Try.func5, Try.ntmps5
  go_upto_region 3 with (go_at_call 6; refine (awake_calls w).mono ?_; rintro e w1 ⟨rfl, hb⟩; have HB1 := Aside0.mk hb; clear hb)
  have HFW := Lib.hid (few_calls w1 wi A c ops (Kd.F_mono (Kd.F_step HX.out (fun k hk _ => HB1.out.block k hk)) (fun k hk => Nat.lt_of_lt_of_le hk HB1.out.size)))
  go_upto_if 21 with (go_at_call 14; refine HFW.out.mono ?_; rintro e w2 ⟨b, rfl, hbt, hb⟩; have HBT := Lib.hid hbt; have HB2 := Aside0.mk (HB1.out.trans (hb.mono HB1.out.size)); clear hbt hb)
  cases b with
  | false =>
    go_wp2
    go_ret
    exact ⟨rfl, HB2.out⟩
  | true =>
    obtain ⟨W, hW⟩ : ∃ W : Nat, wi = (W : Int) := ⟨wi.toNat, by have := (HBT.out rfl).2.2.1; omega⟩
    subst hW
    obtain ⟨n, hn⟩ : ∃ n, n = ops.length := ⟨_, rfl⟩
    have HN := Lib.hid (show n ≤ 120 by have := (HBT.out rfl).2.1; omega)
    have HPW := Lib.hid (play_calls w2 W A c ops (Kd.F_mono (Kd.F_step HX.out (fun k hk _ => HB2.out.block k hk)) (fun k hk => Nat.lt_of_lt_of_le hk HB2.out.size)) (by have := (HBT.out rfl).2.2.1; omega) (by have := (HBT.out rfl).2.2.2; omega) (HBT.out rfl).2.1 (HBT.out rfl).1)
    have HNO := Lib.hid hn
    clear hn HFW
    go_upto_region 8 with (go_at_call 15; refine HPW.out.mono ?_; rintro e w3 ⟨lo, x0, y0, Ka, Kb, F, pa, pb, Au, Ao, Ai, Av, Aq, Aj, cu, co, ci, cv, cq, cj, rfl, hs, hlo, hb⟩; have HS3 := Aside0.mk hs; have HLO := Lib.hid (Nat.le_trans HB2.out.size hlo); have HB3 := Aside0.mk (HB2.out.trans (hb.mono HB2.out.size)); clear hs hlo hb)
    obtain ⟨wb, hwb⟩ : ∃ wb, wb = (w3.alloc (.cells (sdC x0 pa Au cu Ao co Ai ci) 43)).alloc (.cells (sdC y0 pb Av cv Aq cq Aj cj) 43) := ⟨_, rfl⟩
    rw [← hwb]
    have e1 := alloc_sz w3 (.cells (sdC x0 pa Au cu Ao co Ai ci) 43) rfl
    have hg3 : wb.heap[w3.heap.size]? = some (.cells (sdC x0 pa Au cu Ao co Ai ci) 43 (0, 0)) := by rw [hwb]; exact alloc_le _ _ (alloc_at w3 _ rfl) (by omega)
    have hg4 : wb.heap[w3.heap.size + 1]? = some (.cells (sdC y0 pb Av cv Aq cq Aj cj) 43 (0, 0)) := by rw [hwb]; exact alloc_at _ _ e1
    have hbb : Below w3.heap.size w3 wb := by rw [hwb]; exact below_alloc (below_alloc (Below.refl _ _) _) _
    obtain ⟨g3, e3⟩ : ∃ g3, g3 = w3.heap.size := ⟨_, rfl⟩
    obtain ⟨g4, e4⟩ : ∃ g4, g4 = w3.heap.size + 1 := ⟨_, rfl⟩
    rw [← e4] at hg4 ⊢
    rw [← e3] at hg3 ⊢
    have HGE := Lib.hid (show w.heap.size ≤ g3 ∧ g4 = g3 + 1 by have := HB3.out.size; omega)
    rw [← HNO.out] at HS3
    have HE0 := Aside0.mk (show ∃ F, Se w wb lo W n x0 y0 Ka Kb F pa pb Au Ao Ai Av Aq Aj cu co ci cv cq cj g3 g4 from ⟨fun k => F k ∧ k < w3.heap.size, ⟨Sides.move (w := w3) ⟨HS3.out.inv, HS3.out.two, HS3.out.sx.bound, HS3.out.sy.bound, fun k hk => HS3.out.ap k hk.1⟩ (fun k _ hlt => hbb.block k hlt) hbb.size, hg3, hg4, fun k hk => by
      have hlt : k < w3.heap.size := by
        rcases hk with hk | hk | hk
        · exact (HS3.out.two.a.kb k hk).2
        · exact (HS3.out.two.b.kb k hk).2
        · exact hk.2
      omega, HB3.out.trans (hbb.mono HB3.out.size)⟩⟩)
    clear hwb e1 hg3 hg4 hbb e3 e4 HS3 HB3 HB2 HB1 HX HPW HBT HNO
    obtain ⟨F0, hE0⟩ := HE0.out
    have HE0 := Aside0.mk hE0
    have c3 := blk_cell hE0.b3 2
    have c4 := blk_cell hE0.b4 2
    have l3 : (x0.out.length : Int) ≤ 120 := by have := hE0.s.inv.na; have := HN.out; omega
    have l4 : (y0.out.length : Int) ≤ 120 := by have := hE0.s.inv.nb; have := HN.out; omega
    have l5 : (0 : Int) ≤ x0.out.length := by omega
    have l6 : (0 : Int) ≤ y0.out.length := by omega
    obtain ⟨N, hN⟩ : ∃ N : Nat, N = x0.out.length + y0.out.length + 3 := ⟨_, rfl⟩
    have HN3 := Lib.hid hN
    have hNi : (x0.out.length : Int) + y0.out.length + 3 = (N : Int) := by omega
    have hNb : (N : Int) ≤ 1000 := by omega
    clear hE0 hN
    go_wp2
    clear c3 c4 l3 l4 l5 l6
    try rw [hNi]
    go_loopw [7, 39] (fun v7 v wr => ∃ (k : Nat) (x y : Sd) (F : Nat → Prop) (Au Ao Ai Av Aq Aj : Option Addr) (cu co ci cv cq cj : Nat), v = .int .i64 k ∧ v7 = .bool true ∧ Hid (k ≤ N ∧ Came W n x0 y0 k x y) ∧ Aside0 (Se w wr lo W n x y Ka Kb F pa pb Au Ao Ai Av Aq Aj cu co ci cv cq cj g3 g4)) (fun _ v _ => N - (intOf v).toNat)
    case atStart => exact ⟨0, x0, y0, F0, _, _, _, _, _, _, _, _, _, _, _, _, rfl, rfl, ⟨Nat.zero_le _, rfl, rfl, .inl ⟨rfl, rfl, rfl⟩⟩, HE0⟩
    case round =>
      obtain ⟨k, x, y, F, Au, Ao, Ai, Av, Aq, Aj, cu, co, ci, cv, cq, cj, rfl, rfl, HK, HX⟩ := hrel
      clear HE0
      by_cases hlt : k < N
      · have k0 : (0 : Int) ≤ k := by omega
        have k1 : (k : Int) < N := by omega
        have HLT := Lib.hid hlt
        clear hlt
        obtain ⟨⟨r0, r1, r2, r3, r4, r5, r6⟩, _⟩ := cells7 HX.out.b3
        obtain ⟨⟨z0, z1, z2, z3, z4, z5, z6⟩, _⟩ := cells7 HX.out.b4
        go_upto_region 13 with (first
          | (refine store7 rfl rfl _ _ rfl y2 pb Av' Aq' Aj' cv' cq' cj' rfl rfl HB48.out ?_; intro w9 t1 t2 t3 t4; have HX9 := Aside0.mk (se_put HX.out HS7.out HB7.out HZ7.out HN7.out (by have := HGE.out; omega) (by have := HGE.out; omega) (by have := HGE.out; omega) S1.out S2.out S3.out S4.out t1 t2 t3 t4); clear t1 t2 t3 t4)
          | (refine store7 rfl rfl _ _ rfl x2 pa Au' Ao' Ai' cu' co' ci' rfl rfl HB37.out ?_; intro w8 t1 t2 t3 t4; have S1 := Aside0.mk t1; have S2 := Lib.hid t2; have S3 := Lib.hid t3; have S4 := Lib.hid t4; have HB48 := Aside0.mk ((t2 g4 (by have := HGE.out; omega)).trans HB47.out); clear t1 t2 t3 t4)
          | (go_at_call 16; refine (exchange_calls w wr lo W n x y Ka Kb F pa pb Au Ao Ai Av Aq Aj cu co ci cv cq cj HX.out.below HLO.out HX.out.s (by have := HN.out; omega)).mono ?_; rintro e w7 ⟨x1, y1, x2, y2, F', Au', Ao', Ai', Av', Aq', Aj', cu', co', ci', cv', cq', cj', rfl, hh1, hh2, hs, hb, hz, hk, hn⟩; have HH1 := Lib.hid hh1; have HH2 := Lib.hid hh2; have HS7 := Aside0.mk hs; have HB7 := Aside0.mk hb; have HZ7 := Lib.hid hz; have HN7 := Lib.hid hn; have HB37 := Aside0.mk ((hk g3 (blk_lt HX.out.b3) (fun h => (HX.out.out g3 (.inl h)).1 rfl) (fun h => (HX.out.out g3 (.inr (.inl h))).1 rfl)).trans HX.out.b3); have HB47 := Aside0.mk ((hk g4 (blk_lt HX.out.b4) (fun h => (HX.out.out g4 (.inl h)).2 rfl) (fun h => (HX.out.out g4 (.inr (.inl h))).2 rfl)).trans HX.out.b4); clear hh1 hh2 hs hb hz hk hn))
        clear r0 r1 r2 r3 r4 r5 r6 z0 z1 z2 z3 z4 z5 z6 HS7 HB7 HZ7 HN7 HB37 HB47 HB48 S1 S2 S3 S4
        have HC9 := Lib.hid (HK.out.2.next HX.out.s.inv HH1.out HH2.out)
        go_wp2
        go_roundw
        case rel => exact ⟨k + 1, x2, y2, _, _, _, _, _, _, _, _, _, _, _, _, _, by go_num, rfl, ⟨HLT.out, HC9.out⟩, HX9⟩
        case measure => have := HLT.out; simp [intOf]; omega
      · have k1 : ¬ (k : Int) < N := by omega
        have HKE := Lib.hid (show k = N by have := HK.out.1; omega)
        have HD := Lib.hid (show y.inn = x.out ∧ x.inn = y.out ∧ x.tld = x.so ∧ y.tld = y.so by
          have hc := HK.out.2
          have hk := HKE.out
          have hn := HN3.out
          rcases hc.2.2 with ⟨h, _⟩ | ⟨_, h⟩
          · omega
          · refine far_done (W := W) (n := n) ?_
            rw [hc.1, hc.2.1, ← hn, ← hk]
            exact h)
        clear hlt
        have HFX := Lib.hid (HX.out.s.fine (by have := HN.out; omega))
        have HFY := Lib.hid (HX.out.s.flip.fine (by have := HN.out; omega))
        have HSH := Lib.hid (show (∀ m ∈ (enOf W x).out, m.length ≤ 1000) ∧ ∀ m ∈ (enOf W y).out, m.length ≤ 1000 from ⟨fun m hm => by have := HX.out.s.inv.a.short m hm; omega, fun m hm => by have := HX.out.s.inv.b.short m hm; omega⟩)
        have r0 := blk_cell HX.out.b3 0
        go_upto_region 16 with (first
          | (go_at_call 10; refine (packet_any wp lo Kb (enOf W y) pb HFY.out HXA.out.s.two.b HSH.out.2 (show y.so ≤ y.tld by rw [HD.out.2.2.2]; exact Nat.le_refl _)).mono ?_; rintro e wq ⟨A2, n2, c2, b2, rfl, hz, hm⟩; have HXB := Aside0.mk ((HXA.out.flip.sent HLO.out hz hm).flip); clear hz hm)
          | (go_at_call 10; refine (packet_any wr lo Ka (enOf W x) pa HFX.out HX.out.s.two.a HSH.out.1 (show x.so ≤ x.tld by rw [HD.out.2.2.1]; exact Nat.le_refl _)).mono ?_; rintro e wp ⟨A1, n1, c1, b1, rfl, hz, hm⟩; have HXA := Aside0.mk (HX.out.sent HLO.out hz hm); have r1 := blk_cell HXA.out.b4 0; clear hz hm))
        obtain ⟨xe, hxe⟩ : ∃ xe, xe = ({ x with rcv := false } : Sd) := ⟨_, rfl⟩
        obtain ⟨ye, hye⟩ : ∃ ye, ye = ({ y with rcv := false } : Sd) := ⟨_, rfl⟩
        rw [← hxe, ← hye] at HXB
        have HDE := Lib.hid (show ye.inn = xe.out ∧ xe.inn = ye.out ∧ xe.tld = xe.so ∧ ye.tld = ye.so ∧ xe.rcv = false ∧ ye.rcv = false by
          rw [hxe, hye]; exact ⟨HD.out.1, HD.out.2.1, HD.out.2.2.1, HD.out.2.2.2, rfl, rfl⟩)
        clear hxe hye HXA HX HFX HFY HSH HD r0 r1
        have HFX := Lib.hid (HXB.out.s.fine (by have := HN.out; omega))
        have HFY := Lib.hid (HXB.out.s.flip.fine (by have := HN.out; omega))
        have hopx : ((enOf W xe).so : Int) - (enOf W xe).tld = 0 := (show (xe.so : Int) - (xe.tld : Int) = 0 by rw [HDE.out.2.2.1]; omega)
        have hopy : ((enOf W ye).so : Int) - (enOf W ye).tld = 0 := (show (ye.so : Int) - (ye.tld : Int) = 0 by rw [HDE.out.2.2.2.1]; omega)
        have HOX := Lib.hid hopx
        have HOY := Lib.hid hopy
        clear hopx hopy
        have a3 := blk_cell HXB.out.b3 3
        have b3 := blk_cell HXB.out.b4 2
        go_upto_region 18 with (first
          | (go_at_call 11; refine (linkOpen_calls l3 lo Kb (enOf W ye) pb HFY.out HL3.out.s.two.b).mono ?_; rw [HOY.out]; rintro e l4 ⟨rfl, hd⟩; have HL4 := Aside0.mk (HL3.out.stay (show Below l3.heap.size l3 l4 by obtain ⟨⟨m, rfl⟩⟩ := hd; exact pw_below_drewN (Below.refl _ _) _)); clear hd)
          | (go_at_call 11; refine (linkOpen_calls l2 lo Ka (enOf W xe) pa HFX.out HL2.out.s.two.a).mono ?_; rw [HOX.out]; rintro e l3 ⟨rfl, hd⟩; have HL3 := Aside0.mk (HL2.out.stay (show Below l2.heap.size l2 l3 by obtain ⟨⟨m, rfl⟩⟩ := hd; exact pw_below_drewN (Below.refl _ _) _)); have b5 := blk_cell HL3.out.b4 0; clear hd)
          | (go_at_call 13; refine (lists_eq l1 _ _ _ _ ye.inn xe.out HDE.out.1 (Kd.F_now HL1.out.s.sy.fi) (Kd.F_now HL1.out.s.sx.fo)).mono ?_; rintro e l2 ⟨rfl, hd⟩; have HL2 := Aside0.mk (HL1.out.stay (show Below l1.heap.size l1 l2 by obtain ⟨m, rfl⟩ := hd; exact pw_below_drewN (Below.refl _ _) _)); have a5 := blk_cell HL2.out.b3 0; clear hd)
          | (go_at_call 13; refine (lists_eq wq _ _ _ _ xe.inn ye.out HDE.out.2.1 (Kd.F_now HXB.out.s.sx.fi) (Kd.F_now HXB.out.s.sy.fo)).mono ?_; rintro e l1 ⟨rfl, hd⟩; have HL1 := Aside0.mk (HXB.out.stay (show Below wq.heap.size wq l1 by obtain ⟨m, rfl⟩ := hd; exact pw_below_drewN (Below.refl _ _) _)); have a4 := blk_cell HL1.out.b3 2; have b4 := blk_cell HL1.out.b4 3; clear hd))
        clear a3 b3 a4 b4 a5 b5
        have a0 := blk_cell HL4.out.b3 0
        go_wp2_with (first
          | (go_at_call 10; refine (linkPacketNone_calls l5 lo Kb (enOf W ye) pb HFY.out HL5.out.s.two.b (show ye.so ≤ ye.tld by rw [HDE.out.2.2.2.1]; exact Nat.le_refl _) HDE.out.2.2.2.2.2).mono ?_; rintro e l6 ⟨rfl, hd⟩; have HL6 := Aside0.mk (HL5.out.stay (show Below l5.heap.size l5 l6 by obtain ⟨⟨m, rfl⟩⟩ := hd; exact pw_below_drewN (Below.refl _ _) _)); clear hd)
          | (go_at_call 10; refine (linkPacketNone_calls l4 lo Ka (enOf W xe) pa HFX.out HL4.out.s.two.a (show xe.so ≤ xe.tld by rw [HDE.out.2.2.1]; exact Nat.le_refl _) HDE.out.2.2.2.2.1).mono ?_; rintro e l5 ⟨rfl, hd⟩; have HL5 := Aside0.mk (HL4.out.stay (show Below l4.heap.size l4 l5 by obtain ⟨⟨m, rfl⟩⟩ := hd; exact pw_below_drewN (Below.refl _ _) _)); have b0 := blk_cell HL5.out.b4 0; clear hd))
        go_ret
        exact ⟨rfl, HL6.out.below⟩
end Go.Proofs.Ytcdhjkkdenhmcaa
