/- link: step. -/
import Derived.Test.YtcdhjkkdenhmcaaLkM
namespace Go.Proofs.Ytcdhjkkdenhmcaa
open Go.RowKit Go.Proofs.YtcdhjkkdenhmcaaW.PrintWords Go.Proofs.YtcdhjkkdenhmcaaW.PrintLast Go.Proofs.YtcdhjkkdenhmcaaW.PrintMore
attribute [local go_sem] max2_int min2_int max_two min_two
set_option linter.unusedVariables false
set_option linter.unusedSimpArgs false
/-- What a step leaves. -/
def StepPost (w : World) (lo : Nat) (Ka Kb F : Nat → Prop) (W n : Nat) (pa pb : Nat) (e : Ending) (w' : World) : Prop :=
  ∃ (x y : Sd) (Ka' F' : Nat → Prop) (Au Ao Ai Av Aq Aj : Option Addr) (cu co ci cv cq cj : Nat), e = .returned (.tuple #[.agg (sdC x pa Au cu Ao co Ai ci), .agg (sdC y pb Av cv Aq cq Aj cj), .bool true]) ∧ Inv W (n + 1) x y ∧
    Two w' lo Ka' Kb (enOf W x) (enOf W y) pa pb ∧ SideAt w' F' x Au cu Ao co Ai ci ∧ SideAt w' F' y Av cv Aq cq Aj cj ∧ Moved w w' lo Ka Ka' ∧ (∀ k, F' k → (F k ∧ k < w.heap.size) ∨ w.heap.size ≤ k) ∧ ∀ k, F' k → ¬ Ka' k ∧ ¬ Kb k
/-- What a step's two results change. -/
structure PutTwo (w w4 w9 : World) (g6 g7 : Nat) : Prop where
  eq : ∀ k : Nat, k ≠ g6 → k ≠ g7 → w9.heap[k]? = w4.heap[k]?
  size : w9.heap.size = w4.heap.size
  below : Below w.heap.size w4 w9
theorem put_two {w w4 : World} {g6 g7 : Nat} (h6 : w.heap.size ≤ g6) (h7 : w.heap.size ≤ g7) (h4 : w.heap.size ≤ w4.heap.size) (a0 a1 a2 a3 a4 a5 a6 b0 b1 b2 b3 b4 b5 b6 : Value) : PutTwo w w4 (put7 (put7 w4 g6 a0 a1 a2 a3 a4 a5 a6) g7 b0 b1 b2 b3 b4 b5 b6) g6 g7 :=
  ⟨fun k h1 h2 => (put7_ne _ h2 _ _ _ _ _ _ _).trans (put7_ne _ h1 _ _ _ _ _ _ _), (put7_size _ _ _ _ _ _ _ _ _).trans (put7_size _ _ _ _ _ _ _ _ _), put7_below (put7_below (Below.refl _ _) h6 _ _ _ _ _ _ _) h7 _ _ _ _ _ _ _⟩
def Fr (w : World) (F Ka : Nat → Prop) (g6 g7 : Nat) (k : Nat) : Prop := (F k ∧ k < w.heap.size) ∨ (w.heap.size ≤ k ∧ k ≠ g6 ∧ k ≠ g7 ∧ ¬ Ka k)
theorem step_end {w w4 w9 : World} {lo : Nat} {Ka Kb F Ka' : Nat → Prop} {W n g6 g7 pa pb : Nat} {x y : Sd} {Au Ao Ai Av Aq Aj : Option Addr} {cu co ci cv cq cj : Nat} (hI : Inv W (n + 1) x y) (hP : PutTwo w w4 w9 g6 g7) (hg6 : w.heap.size ≤ g6) (hg7 : w.heap.size ≤ g7)
    (hE : IsEnd w4 lo Ka' (enOf W x) pa) (hEb : IsEnd w4 lo Kb (enOf W y) pb) (hM : Moved w w4 lo Ka Ka') (hx : SideAt w4 (Fr w F Ka' g6 g7) x Au cu Ao co Ai ci) (hy : SideAt w4 (Fr w F Ka' g6 g7) y Av cv Aq cq Aj cj)
    (hk6 : ¬ Ka' g6) (hk7 : ¬ Ka' g7) (hap : ∀ k, Ka k → ¬ Kb k) (hf : ∀ k, F k → ¬ Ka k ∧ ¬ Kb k) (hkb : ∀ k, Kb k → k < w.heap.size) (hlo : lo ≤ w.heap.size) :
    StepPost w lo Ka Kb F W n pa pb (.returned (.tuple #[.agg (sdC x pa Au cu Ao co Ai ci), .agg (sdC y pb Av cv Aq cq Aj cj), .bool true])) w9 := by
  have hsz := hM.kept.1
  have fr : ∀ k, Fr w F Ka' g6 g7 k → k ≠ g6 ∧ k ≠ g7 := fun k hk => by
    rcases hk with hk | hk
    · exact ⟨by omega, by omega⟩
    · exact ⟨hk.2.1, hk.2.2.1⟩
  refine ⟨x, y, Ka', Fr w F Ka' g6 g7, Au, Ao, Ai, Av, Aq, Aj, cu, co, ci, cv, cq, cj, rfl, hI, ⟨hE.move (fun k hk => hP.eq k (fun e => hk6 (e ▸ hk)) (fun e => hk7 (e ▸ hk))) (by rw [hP.size]; exact Nat.le_refl _), hEb.move (fun k hk => hP.eq k (by have := hkb k hk; omega) (by have := hkb k hk; omega)) (by rw [hP.size]; exact Nat.le_refl _), fun k h1 h2 => ?_⟩, hx.step (fun k hk _ => hP.eq k (fr k hk).1 (fr k hk).2), hy.step (fun k hk _ => hP.eq k (fr k hk).1 (fr k hk).2), ⟨hM.below.trans (hP.below.mono hlo), ⟨by rw [hP.size]; exact hsz, fun k hk hn => (hP.eq k (by omega) (by omega)).trans (hM.kept.2 k hk hn)⟩, hM.new⟩, fun k hk => ?_, fun k hk => ?_⟩
  · rcases hM.new k h1 with h | h
    · exact hap k h h2
    · have := hkb k h2; omega
  · rcases hk with hk | hk
    · exact .inl hk
    · exact .inr hk.1
  · rcases hk with hk | hk
    · refine ⟨fun h => ?_, (hf k hk.1).2⟩
      rcases hM.new k h with h | h
      · exact (hf k hk.1).1 h
      · omega
    · exact ⟨hk.2.2.2, fun h => by have := hkb k h; omega⟩
abbrev opC (kind who kk nn : Int) (B : Option Addr) (n d : Nat) : Array Value := #[.int .i64 kind, .int .i64 who, .int .i64 kk, .int .i64 nn, .slice B n d]
theorem S_head {w : World} {ok : Nat → Prop} {A : Option Addr} {c hi : Nat} {l : List (List UInt8)} (h : Kd.F kBs w ok A l.length l) (h2 : hi ≤ l.length) (hc : l.length ≤ c) (xo : List (List UInt8)) (hx : xo = l.take hi) :
    (∀ W : World, (Instr.slice 22 (.slice A l.length c) none (some (.int .i64 (hi : Int))) none).run Try.prog W = .ok (.slice A xo.length c) W) ∧ Kd.F kBs w ok A xo.length xo ∧ xo.length ≤ c := by
  subst hx
  have hl : (l.take hi).length = hi := by rw [List.length_take]; omega
  refine ⟨fun W => ?_, Kd.F_take h h2, by omega⟩
  obtain ⟨i0, hi0, hz0, hz1, hz2⟩ := info_parts info6
  have ht := Try.underlying22
  have hel : Try.prog.elem 22 = 29 := by simp [Program.elem, ht]
  have hu : Try.prog.underlying 22 = some (.slice (Try.prog.elem 22)) := by rw [hel]; exact ht
  rw [run_slice_h (w := W) 22 A l.length c hu .i64 (hi : Int) (by omega) (by omega), hel, hl]
  cases A with
  | none => simp [sizeOf, typeInfo, hi0, hz1, sliced, Result.andThen]
  | some ad => simp [sizeOf, typeInfo, hi0, hz1, sliced, Result.andThen, Addr.add]
def gq (l : List (List UInt8 × Int)) (k : Nat) : List UInt8 × Int := l.getD k ([], 0)
theorem gq_mem {l : List (List UInt8 × Int)} {k : Nat} (h : k < l.length) : gq l k ∈ l := by
  unfold gq
  rw [List.getD_eq_getElem?_getD, List.getElem?_eq_getElem h]
  exact List.getElem_mem h
theorem PF_cell {w : World} {ok : Nat → Prop} {A : Option Addr} {l : List (List UInt8 × Int)} (h : Kd.F kPk w ok A l.length l) {k : Nat} (hk : k < l.length) :
    ∃ ad B d, A = some ad ∧ w.cell? (ad.add (k * 2)) = some (.slice B (gq l k).1.length d) ∧ w.cell? ⟨(ad.add (k * 2)).block, (ad.add (k * 2)).off + 1, none⟩ = some (.int .i64 (gq l k).2) ∧ (gq l k).1.length ≤ d ∧ Kd.F kB w ok B (gq l k).1.length (gq l k).1 ∧ ok ad.block := by
  obtain ⟨ad, c, e, hcl, hK, hc, hin⟩ := Kd.F_get h (([] : List UInt8), (0 : Int)) (k : Int) (by omega) (by omega)
  have e2 : kPk.sz = 2 := rfl
  have eg : l.getD (k : Int).toNat (([] : List UInt8), (0 : Int)) = gq l k := by rw [Int.toNat_natCast]; rfl
  rw [e2, Int.toNat_natCast] at hc
  rw [eg] at hK
  obtain ⟨c0, c1, ec, hs, hi⟩ := Kd.FK_now hK
  have hi' : c1 = [.int .i64 (gq l k).2] := hi
  obtain ⟨B, d, es, hd, _⟩ := hs
  subst es hi' ec
  have e3 : ad.add (k * 2 + 1) = ⟨(ad.add (k * 2)).block, (ad.add (k * 2)).off + 1, none⟩ := by
    unfold Addr.add
    by_cases hk0 : k * 2 = 0
    · simp [hk0]
    · simp [hk0]; omega
  have h1 := hc 1 _ rfl
  rw [e3] at h1
  refine ⟨ad, B, d, e, hc 0 _ rfl, h1, hd, fun W' hW => ?_, hin (by decide)⟩
  obtain ⟨c0, c1, ec, hs, _⟩ := hK W' hW
  obtain ⟨B', d', es, _, hC⟩ := hs
  subst es
  simp only [List.cons_append, List.nil_append, List.cons.injEq] at ec
  injection ec.1 with eb _ _
  subst eb
  exact hC
theorem idx_ok (kk : Int) (n : Nat) (h0 : 0 < n) (hn : n ≤ 500) : ∃ idx : Nat, idx < n ∧ (wrap64 (kk.tmod n + n)).tmod n = (idx : Int) := by
  have h1 : kk.tmod n < n := Int.tmod_lt_of_pos kk (by omega)
  have h2 : -(n : Int) < kk.tmod n := Int.lt_tmod_of_pos kk (by omega)
  have h3 : wrap64 (kk.tmod n + n) = kk.tmod n + n := by unfold wrap64; omega
  rw [h3]
  have h4 : (kk.tmod n + n).tmod n < n := Int.tmod_lt_of_pos _ (by omega)
  have h5 : 0 ≤ (kk.tmod n + n).tmod n := Int.tmod_nonneg _ (by omega)
  exact ⟨((kk.tmod n + n).tmod n).toNat, by omega, (Int.toNat_of_nonneg h5).symm⟩
set_option maxRecDepth 100000 in
set_option maxHeartbeats 8000000 in
theorem step_calls (w : World) (lo : Nat) (Ka Kb F : Nat → Prop) (W n : Nat) (x y : Sd) (pa pb : Nat) (Au Ao Ai Av Aq Aj : Option Addr) (cu co ci cv cq cj : Nat) (B : Option Addr) (d : Nat) (p : List UInt8) (kind who kk nn : Int)
    (hI : Inv W n x y) (hn : n ≤ 500) (hT : Two w lo Ka Kb (enOf W x) (enOf W y) pa pb) (hx : SideAt w F x Au cu Ao co Ai ci) (hy : SideAt w F y Av cv Aq cq Aj cj)
    (hB : Kd.F kB w F B p.length p) (hd : p.length ≤ d) (hp : p.length ≤ 100) (hf : ∀ k, F k → ¬ Ka k ∧ ¬ Kb k) :
    Calls Try.prog 24 #[.agg (sdC x pa Au cu Ao co Ai ci), .agg (sdC y pb Av cv Aq cq Aj cj), .agg (opC kind who kk nn B p.length d)] w (StepPost w lo Ka Kb F W n pa pb) := by
  have HI := Lib.hid hI
  have HNN := Lib.hid hn
  have HT := Aside0.mk hT
  have HX := Aside0.mk hx.bound
  have HY := Aside0.mk hy.bound
  have HP := Aside0.mk (Kd.F_bound hB)
  have HD := Lib.hid hd
  have HPL := Lib.hid hp
  have HFF := Lib.hid hf
  have HLO := Lib.hid (show lo ≤ w.heap.size by obtain ⟨_, _, z⟩ := hT.a; exact z.low)
  have HKA := Lib.hid (fun k hk => (hT.a.kb k hk).2 : ∀ k, Ka k → k < w.heap.size)
  have HKB := Lib.hid (fun k hk => (hT.b.kb k hk).2 : ∀ k, Kb k → k < w.heap.size)
  have ul : x.und.length ≤ 500 := Nat.le_trans hI.ua hn
  have HUL := Lib.hid ul
  clear hI hn hT hx hy hB hd hp hf
  go_enter Try.func24, Try.ntmps24
  go_upto_region 1 with (fail)
  obtain ⟨w0, hw0⟩ : ∃ w0, w0 = ((((w.alloc (.cells (sdC x pa Au cu Ao co Ai ci) 43)).alloc (.cells (sdC y pb Av cv Aq cq Aj cj) 43)).alloc (.cells (opC kind who kk nn B p.length d) 59)).alloc (.cells zeroC 43)).alloc (.cells zeroC 43) := ⟨_, rfl⟩
  have hw0' := hw0
  simp only [zeroC] at hw0'
  rw [← hw0']
  have HB0 := Aside0.mk (show Below w.heap.size w w0 by rw [hw0]; exact below_alloc (below_alloc (below_alloc (below_alloc (below_alloc (Below.refl _ _) _) _) _) _) _)
  obtain ⟨hsz, hg3, hg4, hg5, hg6, hg7⟩ := five w (.cells (sdC x pa Au cu Ao co Ai ci) 43) (.cells (sdC y pb Av cv Aq cq Aj cj) 43) (.cells (opC kind who kk nn B p.length d) 59) (.cells zeroC 43) (.cells zeroC 43)
  rw [← hw0] at hsz hg3 hg4 hg5 hg6 hg7
  obtain ⟨g3, e3⟩ : ∃ g3, g3 = w.heap.size := ⟨_, rfl⟩
  obtain ⟨g4, e4⟩ : ∃ g4, g4 = w.heap.size + 1 := ⟨_, rfl⟩
  obtain ⟨g5, e5⟩ : ∃ g5, g5 = w.heap.size + 1 + 1 := ⟨_, rfl⟩
  obtain ⟨g6, e6⟩ : ∃ g6, g6 = w.heap.size + 1 + 1 + 1 := ⟨_, rfl⟩
  obtain ⟨g7, e7⟩ : ∃ g7, g7 = w.heap.size + 1 + 1 + 1 + 1 := ⟨_, rfl⟩
  rw [← e7] at hg7 ⊢
  rw [← e6] at hg6 ⊢
  rw [← e5] at hg5 ⊢
  rw [← e4] at hg4 ⊢
  rw [← e3] at hg3 ⊢
  have HGE := Lib.hid (show g3 = w.heap.size ∧ g4 = w.heap.size + 1 ∧ g5 = w.heap.size + 1 + 1 ∧ g6 = w.heap.size + 1 + 1 + 1 ∧ g7 = w.heap.size + 1 + 1 + 1 + 1 ∧ w0.heap.size = w.heap.size + 1 + 1 + 1 + 1 + 1 from ⟨e3, e4, e5, e6, e7, hsz⟩)
  have HBXS := Aside0.mk (show (w0.heap[g3]? = some (.cells (sdC x pa Au cu Ao co Ai ci) 43 (0, 0)) ∧ w0.heap[g4]? = some (.cells (sdC y pb Av cv Aq cq Aj cj) 43 (0, 0)) ∧ w0.heap[g5]? = some (.cells (opC kind who kk nn B p.length d) 59 (0, 0)) ∧ w0.heap[g6]? = some (.cells zeroC 43 (0, 0)) ∧ w0.heap[g7]? = some (.cells zeroC 43 (0, 0))) from ⟨hg3, hg4, hg5, hg6, hg7⟩)
  clear hw0 hw0' hsz hg3 hg4 hg5 hg6 hg7 e3 e4 e5 e6 e7
  have ulb : (x.und.length : Int) ≤ 500 := by omega
  have c1 := blk_cell HBXS.out.1 1
  go_upto_if 18 with (fail)
  go_cut [9] (fun s9 wx => ∃ idx : Nat, s9 = .int .i64 idx ∧ Hid (0 < x.und.length → idx < x.und.length) ∧ Hid (wx.heap.size = w0.heap.size ∧ (∀ k : Nat, wx.heap[k]? = w0.heap[k]?)) ∧ Aside0 (Below w0.heap.size w0 wx))
  case first =>
    have c2 := blk_cell HBXS.out.2.2.1 2
    by_cases h0 : 0 < x.und.length
    · have n0 : decide ((x.und.length : Int) > 0) = true := decide_eq_true (by omega)
      have n1 : (x.und.length : Int) > 0 := by omega
      have n2 : ¬ (x.und.length : Int) = 0 := by omega
      have n3 : ¬ x.und.length = 0 := by omega
      go_wp2
      go_quiet (fail)
      go_wp2
      go_meet
      case rel =>
        obtain ⟨idx, hi, he⟩ := idx_ok kk x.und.length h0 HUL.out
        exact ⟨idx, congrArg _ he, (fun _ => hi), ⟨rfl, fun _ => rfl⟩, ⟨pw_below_drewN (Below.refl _ _) _⟩⟩
    · have n0 : decide ((x.und.length : Int) > 0) = false := decide_eq_false (by omega)
      have n1 : ¬ (x.und.length : Int) > 0 := by omega
      have n2 : ¬ 0 < x.und.length := h0
      clear h0
      go_wp2
      go_meet
      case rel => exact ⟨0, rfl, (fun h => absurd h n2), ⟨rfl, fun _ => rfl⟩, ⟨Below.refl _ _⟩⟩
  case rest =>
    obtain ⟨idx, rfl, HIX, HWC, HBC⟩ := hcut
    obtain ⟨hb3, hb4, hb5, hb6, hb7⟩ := HBXS.out
    have HG3 := Aside0.mk ((HWC.out.2 g3).trans hb3)
    have HG4 := Aside0.mk ((HWC.out.2 g4).trans hb4)
    have HG5 := Aside0.mk ((HWC.out.2 g5).trans hb5)
    have HG6 := Aside0.mk ((HWC.out.2 g6).trans hb6)
    have HG7 := Aside0.mk ((HWC.out.2 g7).trans hb7)
    have HBW := Aside0.mk (show Below w.heap.size w wc from HB0.out.trans (HBC.out.mono HB0.out.size))
    have HSZ := Lib.hid (show wc.heap.size = w.heap.size + 1 + 1 + 1 + 1 + 1 by have := HWC.out.1; have := HGE.out; omega)
    have HGE := Lib.hid (show g3 = w.heap.size ∧ g4 = w.heap.size + 1 ∧ g5 = w.heap.size + 1 + 1 ∧ g6 = w.heap.size + 1 + 1 + 1 ∧ g7 = w.heap.size + 1 + 1 + 1 + 1 from ⟨HGE.out.1, HGE.out.2.1, HGE.out.2.2.1, HGE.out.2.2.2.1, HGE.out.2.2.2.2.1⟩)
    clear hb3 hb4 hb5 hb6 hb7 c1 HBXS HWC HB0 HBC ulb
    have c1 := blk_cell HG3.out 1
    have k0 := blk_cell HG5.out 0
    have k2 := blk_cell HG3.out 2
    by_cases hk0 : kind = 0
    · -- PUSH
      subst hk0
      have k4 := blk_cell HG5.out 4
      have x2 := blk_cell HG3.out 2
      have HOL := Lib.hid (show x.out.length ≤ 500 by have := HI.out.na; have := HNN.out; omega)
      go_upto_region 6 with (go_at_call 32; refine (with_calls wc (fun k => F k ∧ k < w.heap.size) Ao co x.out B d p (Kd.F_step HX.out.fo (fun k hk _ => HBW.out.block k hk.2)) (Kd.F_step HP.out (fun k hk _ => HBW.out.block k hk.2)) HD.out (by have := HOL.out; omega)).mono ?_; rintro e w1 ⟨v1, rfl, hn1, hb1⟩; obtain ⟨xo, hxo⟩ : ∃ xo, xo = x.out ++ [p] := ⟨_, rfl⟩; rw [← hxo] at hn1; obtain ⟨A1, c1', rfl⟩ := Kd.N_slice hn1; have HXO := Lib.hid hxo; have HN1 := Aside0.mk hn1; have HB1 := Aside0.mk hb1; have HG31 := Aside0.mk ((hb1.block _ (blk_lt HG3.out)).trans HG3.out); have q2 := blk_cell HG31.out 2; have f2 := blk_frozen HG31.out 2; clear hn1 hb1 hxo)
      obtain ⟨w2, hw2⟩ : ∃ w2, w2 = w1.setCell ⟨g3, 2, none⟩ (.slice A1 xo.length c1') := ⟨_, rfl⟩
      rw [← hw2]
      have hne : ∀ k : Nat, k ≠ g3 → k < wc.heap.size → w2.heap[k]? = wc.heap[k]? := fun k hk hlt => by rw [hw2]; exact (Below.heap_setCell _ _ _ _ (by exact hk)).trans (HB1.out.block k hlt)
      have HH3 := Aside0.mk (show w2.heap[g3]? = some (.cells #[.pointer (some ⟨pa, 0, none⟩), .slice Au x.und.length cu, .slice A1 xo.length c1', .slice Ai x.inn.length ci, .int .i64 x.so, .int .i64 x.si, .int .i64 x.tld] 43 (0, 0)) by rw [hw2]; exact blk_set HG31.out 2 (.slice A1 xo.length c1'))
      have HH4 := Aside0.mk ((hne g4 (by have := HGE.out; omega) (blk_lt HG4.out)).trans HG4.out)
      have HH5 := Aside0.mk ((hne g5 (by have := HGE.out; omega) (blk_lt HG5.out)).trans HG5.out)
      have HH6 := Aside0.mk ((hne g6 (by have := HGE.out; omega) (blk_lt HG6.out)).trans HG6.out)
      have HH7 := Aside0.mk ((hne g7 (by have := HGE.out; omega) (blk_lt HG7.out)).trans HG7.out)
      have HB2 := Aside0.mk (show Below w.heap.size w w2 by rw [hw2]; exact (HBW.out.trans (HB1.out.mono HBW.out.size)).setCell (show w.heap.size ≤ g3 by have := HGE.out; omega) _)
      have HS2 := Lib.hid (show wc.heap.size ≤ w2.heap.size by rw [hw2, set_size]; exact HB1.out.size)
      have HRO := Aside0.mk (show Kd.F kBs w2 (fun k => okN (fun k => F k ∧ k < w.heap.size) wc k) A1 xo.length xo by rw [hw2]; exact Kd.F_far (Kd.N_F HN1.out) (fun j hj => show j ≠ g3 by have := HGE.out; have := HSZ.out; rcases hj with hj | hj <;> omega) _)
      have HRC := Lib.hid (Kd.N_reads' HN1.out).2.1
      clear hw2 hne HN1 HB1 HG31 q2 f2 x2 HG3 HG4 HG5 HG6 HG7 k4
      refine wp_region_noPanic ?_
      refine wp_region_held_drew (S := fun V => V.heap[g3]? = some (.cells #[.pointer (some ⟨pa, 0, none⟩), .slice Au x.und.length cu, .slice A1 xo.length c1', .slice Ai x.inn.length ci, .int .i64 x.so, .int .i64 x.si, .int .i64 x.tld] 43 (0, 0)) ∧ V.heap[g4]? = some (.cells (sdC y pb Av cv Aq cq Aj cj) 43 (0, 0)) ∧ V.heap[g5]? = some (.cells (opC 0 who kk nn B p.length d) 59 (0, 0))) (by kernel_rfl) (⟨HH3.out, HH4.out, HH5.out⟩) (fun hHeld => ?_)
      obtain ⟨wd, hwd⟩ : ∃ wd, wd = w2.drew := ⟨_, rfl⟩
      rw [← hwd] at hHeld ⊢
      have HBD := Aside0.mk (show Below w2.heap.size w2 wd by rw [hwd]; exact (Below.refl _ _).drew)
      have HDE := Lib.hid (show ∀ k : Nat, wd.heap[k]? = w2.heap[k]? by rw [hwd]; exact fun _ => rfl)
      have HDS := Lib.hid (show wd.heap.size = w2.heap.size by rw [hwd]; rfl)
      clear hwd
      refine wpAnyH_take (i := 0) (v := ?_) rfl (by kernel_rfl) (by kernel_rfl) (by kernel_rfl) (fun _ _ _ h => h) (Or.inl ⟨by rfl, ?_⟩) (by assumption) ?_
      rotate_left 1
      · first | (intro w hSw; obtain ⟨⟨r0, r1, r2, r3, r4, r5, r6⟩, _⟩ := cells7 hSw.1; go_simp; done) | (intro w hSw; obtain ⟨⟨r0, r1, r2, r3, r4, r5, r6⟩, _⟩ := cells7 hSw.1; go_simp; with_reducible rfl)
      try simp only [Act.put, List.getElem_toArray, List.getElem_cons_zero, List.getElem_cons_succ, List.setIfInBounds_toArray, List.set_cons_zero, List.set_cons_succ]
      refine wpAnyH_take (i := 1) (v := ?_) rfl (by kernel_rfl) (by kernel_rfl) (by kernel_rfl) (fun _ _ _ h => h) (Or.inl ⟨by rfl, ?_⟩) (by assumption) ?_
      rotate_left 1
      · first | (intro w hSw; obtain ⟨⟨r0, r1, r2, r3, r4, r5, r6⟩, _⟩ := cells7 hSw.2.1; go_simp; done) | (intro w hSw; obtain ⟨⟨r0, r1, r2, r3, r4, r5, r6⟩, _⟩ := cells7 hSw.2.1; go_simp; with_reducible rfl)
      try simp only [Act.put, List.getElem_toArray, List.getElem_cons_zero, List.getElem_cons_succ, List.setIfInBounds_toArray, List.set_cons_zero, List.set_cons_succ]
      refine wpAnyH_take (i := 2) (v := ?_) rfl (by kernel_rfl) (by kernel_rfl) (by kernel_rfl) (fun _ _ _ h => h) (Or.inl ⟨by rfl, ?_⟩) (by assumption) ?_
      rotate_left 1
      · first | (intro w hSw; go_simp; done) | (intro w hSw; go_simp; with_reducible rfl)
      try simp only [Act.put, List.getElem_toArray, List.getElem_cons_zero, List.getElem_cons_succ, List.setIfInBounds_toArray, List.set_cons_zero, List.set_cons_succ]
      refine wpAnyH_take (i := 3) (v := ?_) rfl (by kernel_rfl) (by kernel_rfl) (by kernel_rfl) (fun _ _ _ h => h) (Or.inl ⟨by rfl, ?_⟩) (by assumption) ?_
      rotate_left 1
      · first | (intro w hSw; have r0 := blk_cell hSw.1 0; go_simp; done) | (intro w hSw; have r0 := blk_cell hSw.1 0; go_simp; with_reducible rfl)
      try simp only [Act.put, List.getElem_toArray, List.getElem_cons_zero, List.getElem_cons_succ, List.setIfInBounds_toArray, List.set_cons_zero, List.set_cons_succ]
      refine wpAnyH_take (i := 4) (v := ?_) rfl (by kernel_rfl) (by kernel_rfl) (by kernel_rfl) (fun _ _ _ h => h) (Or.inl ⟨by rfl, ?_⟩) (by assumption) ?_
      rotate_left 1
      · first | (intro w hSw; go_simp; done) | (intro w hSw; go_simp; with_reducible rfl)
      try simp only [Act.put, List.getElem_toArray, List.getElem_cons_zero, List.getElem_cons_succ, List.setIfInBounds_toArray, List.set_cons_zero, List.set_cons_succ]
      refine wpAnyH_take (i := 5) (v := ?_) rfl (by kernel_rfl) (by kernel_rfl) (by kernel_rfl) (fun _ _ _ h => h) (Or.inl ⟨by rfl, ?_⟩) (by assumption) ?_
      rotate_left 1
      · first | (intro w hSw; have r0 := blk_cell hSw.2.2 4; go_simp; done) | (intro w hSw; have r0 := blk_cell hSw.2.2 4; go_simp; with_reducible rfl)
      try simp only [Act.put, List.getElem_toArray, List.getElem_cons_zero, List.getElem_cons_succ, List.setIfInBounds_toArray, List.set_cons_zero, List.set_cons_succ]
      refine wpAnyH_ready (rs := [6]) (by kernel_rfl) (by simp) ?_
      refine AllReadyH.cons rfl (fun K hK => ?_) AllReadyH.nil
      go_simp
      refine (twin_calls wd _ _ p (Kd.F_now (Kd.F_step HP.out (fun k hk _ => (HBD.out.block k (by have := HB2.out.size; omega)).trans (HB2.out.block k hk.2)))) (by have := HPL.out; omega)).mono ?_; intro e w3 h1; obtain ⟨A3, c3, rfl, hcl, hR, hC, hb⟩ := h1.open_; have HR3 := Aside0.mk hR; have HB3 := Aside0.mk hb; have hK3 := (⟨(hb.block _ (blk_lt hHeld.1)).trans hHeld.1, (hb.block _ (blk_lt hHeld.2.1)).trans hHeld.2.1, (hb.block _ (blk_lt hHeld.2.2)).trans hHeld.2.2⟩ : (w3.heap[g3]? = some (.cells #[.pointer (some ⟨pa, 0, none⟩), .slice Au x.und.length cu, .slice A1 xo.length c1', .slice Ai x.inn.length ci, .int .i64 x.so, .int .i64 x.si, .int .i64 x.tld] 43 (0, 0)) ∧ w3.heap[g4]? = some (.cells (sdC y pb Av cv Aq cq Aj cj) 43 (0, 0)) ∧ w3.heap[g5]? = some (.cells (opC 0 who kk nn B p.length d) 59 (0, 0)))); clear h1 hR hC hb hcl
      go_simp
      refine hK.out _ _ hK3 (fun hHeld => ?_)
      clear hK K
      try simp only [Act.put, List.getElem_toArray, List.getElem_cons_zero, List.getElem_cons_succ, List.setIfInBounds_toArray, List.set_cons_zero, List.set_cons_succ]
      refine wpAnyH_ready (rs := [7]) (by kernel_rfl) (by simp) ?_
      refine AllReadyH.cons rfl (fun K hK => ?_) AllReadyH.nil
      go_simp
      have HB23 := Aside0.mk (show Below w.heap.size w w3 from HB2.out.trans ((HBD.out.mono HB2.out.size).trans (HB3.out.mono (by have := HB2.out.size; have := HBD.out.size; omega)))); refine (linkPush_calls w3 lo Ka (enOf W x) pa _ _ p (HI.out.fine (by have := HNN.out; omega)) (HT.out.a.stay HB23.out) (Kd.R_reads' HR3.out).2.2 (by have := HPL.out; omega) (show x.out.length < x.tld + 4096 by have := HOL.out; omega)).mono ?_; rintro e w4 ⟨rfl, K4, hz, hm⟩; have HZ4 := Aside0.mk hz; have HM4 := Aside0.mk hm; have HGN := Lib.hid (show ∀ k, w.heap.size ≤ k → ¬ Ka k from fun k hk h => by have := HKA.out k h; omega); have HKP := Lib.hid (show ∀ k, k < w2.heap.size → ¬ Ka k → w4.heap[k]? = w2.heap[k]? from fun k hk hn => (hm.kept.2 k (by have := HBD.out.size; have := HB3.out.size; omega) hn).trans ((HB3.out.block k (by have := HBD.out.size; omega)).trans (HBD.out.block k hk))); have HZ6 := Aside0.mk ((HKP.out g6 (blk_lt HH6.out) (HGN.out _ (by have := HGE.out; omega))).trans HH6.out); have HZ7 := Aside0.mk ((HKP.out g7 (blk_lt HH7.out) (HGN.out _ (by have := HGE.out; omega))).trans HH7.out); have HW4 := Lib.hid (show w.heap.size ≤ w4.heap.size from Nat.le_trans HB23.out.size hm.below.size); have hK4 := (⟨(HKP.out g3 (blk_lt HH3.out) (HGN.out _ (by have := HGE.out; omega))).trans HH3.out, (HKP.out g4 (blk_lt HH4.out) (HGN.out _ (by have := HGE.out; omega))).trans HH4.out, (HKP.out g5 (blk_lt HH5.out) (HGN.out _ (by have := HGE.out; omega))).trans HH5.out⟩ : (w4.heap[g3]? = some (.cells #[.pointer (some ⟨pa, 0, none⟩), .slice Au x.und.length cu, .slice A1 xo.length c1', .slice Ai x.inn.length ci, .int .i64 x.so, .int .i64 x.si, .int .i64 x.tld] 43 (0, 0)) ∧ w4.heap[g4]? = some (.cells (sdC y pb Av cv Aq cq Aj cj) 43 (0, 0)) ∧ w4.heap[g5]? = some (.cells (opC 0 who kk nn B p.length d) 59 (0, 0)))); clear hz hm
      go_simp
      refine hK.out _ _ hK4 (fun hHeld => ?_)
      clear hK K
      try simp only [Act.put, List.getElem_toArray, List.getElem_cons_zero, List.getElem_cons_succ, List.setIfInBounds_toArray, List.set_cons_zero, List.set_cons_succ]
      refine wpAnyH_take (i := 8) (v := ?_) rfl (by kernel_rfl) (by kernel_rfl) (by kernel_rfl) (fun _ _ _ h => h) (Or.inl ⟨by rfl, ?_⟩) (by assumption) ?_
      rotate_left 1
      · first | (intro w hSw; go_simp; done) | (intro w hSw; go_simp; with_reducible rfl)
      try simp only [Act.put, List.getElem_toArray, List.getElem_cons_zero, List.getElem_cons_succ, List.setIfInBounds_toArray, List.set_cons_zero, List.set_cons_succ]
      refine wpAnyH_ready (rs := [9]) (by kernel_rfl) (by simp) ?_
      refine AllReadyH.cons rfl (fun K hK => ?_) AllReadyH.nil
      have HSS := Lib.hid hHeld; obtain ⟨⟨r0, r1, r2, r3, r4, r5, r6⟩, s0, s1, s2, s3, s4, s5, s6⟩ := cells7 (show w4.heap[g6]? = some (.cells #[.pointer none, .slice none 0 0, .slice none 0 0, .slice none 0 0, .int .i64 0, .int .i64 0, .int .i64 0] 43 (0, 0)) from HZ6.out); go_simp
      refine hK.out _ _ (by rw [put7_fold]; exact ⟨(put7_ne _ (by have := HGE.out; omega) _ _ _ _ _ _ _).trans hHeld.1, (put7_ne _ (by have := HGE.out; omega) _ _ _ _ _ _ _).trans hHeld.2.1, (put7_ne _ (by have := HGE.out; omega) _ _ _ _ _ _ _).trans hHeld.2.2⟩) (fun hHeld => ?_)
      clear hK K
      try simp only [Act.put, List.getElem_toArray, List.getElem_cons_zero, List.getElem_cons_succ, List.setIfInBounds_toArray, List.set_cons_zero, List.set_cons_succ]
      generalize hw5 : (((((((w4.setCell ⟨g6, 0, none⟩ (.pointer (some ⟨pa, 0, none⟩))).setCell ⟨g6, 1, none⟩ (.slice Au x.und.length cu)).setCell ⟨g6, 2, none⟩ (.slice A1 xo.length c1')).setCell ⟨g6, 3, none⟩ (.slice Ai x.inn.length ci)).setCell ⟨g6, 4, none⟩ (.int .i64 x.so)).setCell ⟨g6, 5, none⟩ (.int .i64 x.si)).setCell ⟨g6, 6, none⟩ (.int .i64 x.tld)) = w5 at hHeld ⊢
      have HW5 := Lib.hid (show w5 = put7 w4 g6 (.pointer (some ⟨pa, 0, none⟩)) (.slice Au x.und.length cu) (.slice A1 xo.length c1') (.slice Ai x.inn.length ci) (.int .i64 x.so) (.int .i64 x.si) (.int .i64 x.tld) from hw5.symm)
      have HZ7' := Aside0.mk (show w5.heap[g7]? = some (.cells #[.pointer none, .slice none 0 0, .slice none 0 0, .slice none 0 0, .int .i64 0, .int .i64 0, .int .i64 0] 43 (0, 0)) by rw [HW5.out]; exact (put7_ne _ (by have := HGE.out; omega) _ _ _ _ _ _ _).trans HZ7.out)
      clear hw5
      refine wpAnyH_ready (rs := [10]) (by kernel_rfl) (by simp) ?_
      refine AllReadyH.cons rfl (fun K hK => ?_) AllReadyH.nil
      obtain ⟨⟨r0, r1, r2, r3, r4, r5, r6⟩, s0, s1, s2, s3, s4, s5, s6⟩ := cells7 HZ7'.out; go_simp
      refine hK.out _ _ (by rw [put7_fold]; exact ⟨(put7_ne _ (by have := HGE.out; omega) _ _ _ _ _ _ _).trans hHeld.1, (put7_ne _ (by have := HGE.out; omega) _ _ _ _ _ _ _).trans hHeld.2.1, (put7_ne _ (by have := HGE.out; omega) _ _ _ _ _ _ _).trans hHeld.2.2⟩) (fun hHeld => ?_)
      clear hK K
      try simp only [Act.put, List.getElem_toArray, List.getElem_cons_zero, List.getElem_cons_succ, List.setIfInBounds_toArray, List.set_cons_zero, List.set_cons_succ]
      refine wpAnyH_take (i := 11) (v := ?_) rfl (by kernel_rfl) (by kernel_rfl) (by kernel_rfl) (fun _ _ _ h => h) (Or.inl ⟨by rfl, ?_⟩) (by assumption) ?_
      rotate_left 1
      · first | (intro w hSw; go_simp; done) | (intro w hSw; go_simp; with_reducible rfl)
      try simp only [Act.put, List.getElem_toArray, List.getElem_cons_zero, List.getElem_cons_succ, List.setIfInBounds_toArray, List.set_cons_zero, List.set_cons_succ]
      refine wpAnyH_done (by kernel_rfl) ?_ _
      refine NoPanic.normal ?_
      rw [put7_fold]
      obtain ⟨w9, hw9⟩ : ∃ w9, w9 = put7 w5 g7 (.pointer (some ⟨pb, 0, none⟩)) (.slice Av y.und.length cv) (.slice Aq y.out.length cq) (.slice Aj y.inn.length cj) (.int .i64 y.so) (.int .i64 y.si) (.int .i64 y.tld) := ⟨_, rfl⟩
      rw [← hw9]
      have hp9 : PutTwo w w4 w9 g6 g7 := by rw [hw9, HW5.out]; exact put_two (by have := HGE.out; omega) (by have := HGE.out; omega) HW4.out _ _ _ _ _ _ _ _ _ _ _ _ _ _
      have hc6 : w9.heap[g6]? = some (.cells #[.pointer (some ⟨pa, 0, none⟩), .slice Au x.und.length cu, .slice A1 xo.length c1', .slice Ai x.inn.length ci, .int .i64 x.so, .int .i64 x.si, .int .i64 x.tld] 43 (0, 0)) := by rw [hw9, HW5.out]; exact (put7_ne _ (by have := HGE.out; omega) _ _ _ _ _ _ _).trans (put7_at (show w4.heap[g6]? = some (.cells #[.pointer none, .slice none 0 0, .slice none 0 0, .slice none 0 0, .int .i64 0, .int .i64 0, .int .i64 0] 43 (0, 0)) from HZ6.out) _ _ _ _ _ _ _)
      have hc7 : w9.heap[g7]? = some (.cells #[.pointer (some ⟨pb, 0, none⟩), .slice Av y.und.length cv, .slice Aq y.out.length cq, .slice Aj y.inn.length cj, .int .i64 y.so, .int .i64 y.si, .int .i64 y.tld] 43 (0, 0)) := by rw [hw9]; exact put7_at HZ7'.out _ _ _ _ _ _ _
      have HP9 := Aside0.mk hp9
      obtain ⟨⟨r0, r1, r2, r3, r4, r5, r6⟩, _⟩ := cells7 hc6
      obtain ⟨⟨q0, q1, q2, q3, q4, q5, q6⟩, _⟩ := cells7 hc7
      clear hw9 HW5 hp9 hc6 hc7 hHeld
      go_wp2
      (try simp only [Exit.inBlock, Exit.then])
      refine bodyPost_ret (v := .tuple #[.agg #[.pointer (some ⟨pa, 0, none⟩), .slice Au x.und.length cu, .slice A1 xo.length c1', .slice Ai x.inn.length ci, .int .i64 x.so, .int .i64 x.si, .int .i64 x.tld], .agg #[.pointer (some ⟨pb, 0, none⟩), .slice Av y.und.length cv, .slice Aq y.out.length cq, .slice Aj y.inn.length cj, .int .i64 y.so, .int .i64 y.si, .int .i64 y.tld], .bool true]) (by simp [results, Try.results24, go_sem, r0, r1, r2, r3, r4, r5, r6, q0, q1, q2, q3, q4, q5, q6]) rfl ?_
      obtain rfl := HXO.out
      have hs3 : w2.heap.size ≤ w3.heap.size := by have := HBD.out.size; have := HB3.out.size; omega
      have hs2 := HS2.out
      have hsz := HSZ.out
      have hge := HGE.out
      have hkw : ∀ k, k < w.heap.size → ¬ Ka k → w4.heap[k]? = w.heap[k]? := fun k hk hn => (HKP.out k (by omega) hn).trans (HB2.out.block k hk)
      have hM : Moved w w4 lo Ka K4 := Moved.trans (K1 := Ka) ⟨HB23.out.mono HLO.out, ⟨HB23.out.size, fun k hk _ => HB23.out.block k hk⟩, fun k hk => .inl hk⟩ HM4.out
      have hnk : ∀ k, w.heap.size ≤ k → k < w3.heap.size → ¬ K4 k := fun k h1 h2 h => by
        rcases HM4.out.new k h with h | h
        · exact HGN.out k h1 h
        · omega
      have hx4 := HX.out.step (w1 := w4) (fun k hk hlt => hkw k hlt (HFF.out k hk.1).1)
      have hy4 := HY.out.step (w1 := w4) (fun k hk hlt => hkw k hlt (HFF.out k hk.1).1)
      have ho4 := Kd.F_step (W1 := w4) (Kd.F_bound HRO.out) (fun k hk hlt => HKP.out k hlt (by
        rcases hk.1 with h | h
        · exact (HFF.out k h.1.1).1
        · exact HGN.out k (by omega)))
      refine step_end (x := x.push p) (y := y) (Ka' := K4) (HI.out.push HPL.out) HP9.out (by omega) (by omega) HZ4.out (HT.out.b.move (fun k hk => hkw k (HKB.out k hk) (fun h => HT.out.ap k h hk)) HW4.out) hM ⟨hx4.cu, Kd.F_mono hx4.fu (fun k hk => .inl hk), HRC.out, Kd.F_mono ho4 (fun k hk => ?_), hx4.ci, Kd.F_mono hx4.fi (fun k hk => .inl hk)⟩ (hy4.mono (fun k hk _ => .inl hk)) (hnk g6 (by omega) (by omega)) (hnk g7 (by omega) (by omega)) HT.out.ap HFF.out HKB.out HLO.out
      rcases hk.1 with h | h
      · exact .inl h.1
      · exact .inr ⟨by omega, by omega, by omega, hnk k (by omega) (by omega)⟩
    have e0 : (kind == 0) = false := beq_eq_false_iff_ne.2 hk0
    clear k2
    go_upto_region 7 with (fail)
    by_cases hk1 : kind = 1
    · -- PACKET
      subst hk1
      have r0 := blk_cell HG3.out 0
      by_cases hgo : x.tld < x.so ∨ x.rcv = true
      · go_upto_region 9 with (go_at_call 10; refine (linkPacket_calls wc lo Ka (enOf W x) pa (HI.out.fine (by have := HNN.out; omega)) (HT.out.a.stay HBW.out) (fun m hm => by have := HI.out.a.short m hm; omega) hgo).mono ?_; rintro e w1 ⟨A1, c1', rfl, hr, hz, hm⟩; obtain ⟨pk, hpk⟩ : ∃ pk, pk = pkt (enOf W x) := ⟨_, rfl⟩; rw [← hpk] at hr ⊢; have HPK := Lib.hid hpk; have HR1 := Aside0.mk hr; have HZ1 := Aside0.mk hz; have HM1 := Aside0.mk hm; clear hr hz hm hpk)
        have hkc : ∀ k : Nat, k < wc.heap.size → ¬ Ka k → w1.heap[k]? = wc.heap[k]? := fun k hk hn => HM1.out.kept.2 k hk hn
        have hgn : ∀ k, w.heap.size ≤ k → ¬ Ka k := fun k hk h => by have := HKA.out k h; omega
        have HQ3 := Aside0.mk ((hkc g3 (blk_lt HG3.out) (hgn _ (by have := HGE.out; omega))).trans HG3.out)
        have HQ4 := Aside0.mk ((hkc g4 (blk_lt HG4.out) (hgn _ (by have := HGE.out; omega))).trans HG4.out)
        have HQ5 := Aside0.mk ((hkc g5 (blk_lt HG5.out) (hgn _ (by have := HGE.out; omega))).trans HG5.out)
        have HQ6 := Aside0.mk ((hkc g6 (blk_lt HG6.out) (hgn _ (by have := HGE.out; omega))).trans HG6.out)
        have HQ7 := Aside0.mk ((hkc g7 (blk_lt HG7.out) (hgn _ (by have := HGE.out; omega))).trans HG7.out)
        have HW1 := Lib.hid (show w.heap.size ≤ w1.heap.size from Nat.le_trans HBW.out.size HM1.out.kept.1)
        have HKC := Lib.hid hkc
        have HK1 := Lib.hid (show ∀ k, k < w.heap.size → ¬ Ka k → w1.heap[k]? = w.heap[k]? from fun k hk hn => (hkc k (Nat.lt_of_lt_of_le hk HBW.out.size) hn).trans (HBW.out.block k hk))
        have HUF := Aside0.mk (show Kd.F kPk w1 (fun k => (F k ∧ k < w.heap.size) ∨ wc.heap.size ≤ k) Av y.und.length y.und from Kd.F_mono (Kd.F_step HY.out.fu (fun k hk hlt => HK1.out k hlt (HFF.out k hk.1).1)) (fun k hk => .inl hk))
        have HPF := Aside0.mk (show Kd.F kB w1 (fun k => (F k ∧ k < w.heap.size) ∨ wc.heap.size ≤ k) A1 pk.length pk from Kd.R_F (Kd.R_mono (Kd.R_bound HR1.out) (fun k hk => .inr hk.2.1)))
        have HPC := Lib.hid (Kd.R_reads' HR1.out).2.1
        clear hkc hgn hgo r0 HG3 HG4 HG5 HG6 HG7 k0 c1
        have r0 := blk_cell HQ4.out 1
        have r1 := blk_cell HQ3.out 5
        go_upto_region 11 with (go_at_call 34; refine (more_calls w1 (fun k => (F k ∧ k < w.heap.size) ∨ wc.heap.size ≤ k) Av cv y.und A1 c1' pk x.si HUF.out HPF.out HPC.out (by have := HI.out.ub; have := HNN.out; omega)).mono ?_; rintro e w2 ⟨v2, rfl, hn2, hb2⟩; obtain ⟨yu, hyu⟩ : ∃ yu, yu = y.und ++ [(pk, (x.si : Int))] := ⟨_, rfl⟩; rw [← hyu] at hn2; obtain ⟨A2, c2', rfl⟩ := Kd.N_slice hn2; have HYU := Lib.hid hyu; have HN2 := Aside0.mk hn2; have HB2 := Aside0.mk hb2; have HS3 := Aside0.mk ((hb2.block _ (blk_lt HQ3.out)).trans HQ3.out); have HS4 := Aside0.mk ((hb2.block _ (blk_lt HQ4.out)).trans HQ4.out); have HS5 := Aside0.mk ((hb2.block _ (blk_lt HQ5.out)).trans HQ5.out); have HS6 := Aside0.mk ((hb2.block _ (blk_lt HQ6.out)).trans HQ6.out); have HS7 := Aside0.mk ((hb2.block _ (blk_lt HQ7.out)).trans HQ7.out); have HB12 := Aside0.mk (hb2.mono HW1.out); have q1 := blk_cell HS4.out 1; have f1 := blk_frozen HS4.out 1; clear hn2 hb2 hyu)
        obtain ⟨w3, hw⟩ : ∃ w3, w3 = w2.setCell ⟨g4, 1, none⟩ (.slice A2 yu.length c2') := ⟨_, rfl⟩
        rw [← hw]
        have hne : ∀ k : Nat, k ≠ g4 → w3.heap[k]? = w2.heap[k]? := fun k hk => by rw [hw]; exact Below.heap_setCell _ _ _ _ (by exact hk)
        have HV4 := Aside0.mk (show w3.heap[g4]? = some (.cells #[.pointer (some ⟨pb, 0, none⟩), .slice A2 yu.length c2', .slice Aq y.out.length cq, .slice Aj y.inn.length cj, .int .i64 y.so, .int .i64 y.si, .int .i64 y.tld] 43 (0, 0)) by rw [hw]; exact blk_set HS4.out 1 (.slice A2 yu.length c2'))
        have HV3 := Aside0.mk ((hne g3 (by have := HGE.out; omega)).trans HS3.out)
        have HV5 := Aside0.mk ((hne g5 (by have := HGE.out; omega)).trans HS5.out)
        have HV6 := Aside0.mk ((hne g6 (by have := HGE.out; omega)).trans HS6.out)
        have HV7 := Aside0.mk ((hne g7 (by have := HGE.out; omega)).trans HS7.out)
        have HVB := Aside0.mk (show Below w.heap.size w1 w3 by rw [hw]; exact HB12.out.setCell (show w.heap.size ≤ g4 by have := HGE.out; omega) _)
        have HVS := Lib.hid (show w3.heap.size = w2.heap.size by rw [hw]; exact set_size _ _ _ _)
        have HVE := Lib.hid hne
        clear hw hne
        clear q1 f1 r0 r1 HQ3 HQ4 HQ5 HQ6 HQ7 HS3 HS4 HS5 HS6 HS7
        have HSW := Lib.hid (show w.heap.size ≤ w3.heap.size by have := HVS.out; have := HB2.out.size; have := HW1.out; omega)
        have HRO := Aside0.mk (Kd.F_step (W1 := w3) (Kd.N_F HN2.out) (fun j hj _ => HVE.out j (by have := HGE.out; have := HSZ.out; have := HM1.out.kept.1; rcases hj with ⟨hj | hj, _⟩ | hj <;> omega)))
        have HRC := Lib.hid (Kd.N_reads' HN2.out).2.1
        refine wp_region_noPanic ?_
        refine wp_region_held_drew (S := fun V => V.heap[g3]? = some (.cells (sdC x pa Au cu Ao co Ai ci) 43 (0, 0)) ∧ V.heap[g4]? = some (.cells #[.pointer (some ⟨pb, 0, none⟩), .slice A2 yu.length c2', .slice Aq y.out.length cq, .slice Aj y.inn.length cj, .int .i64 y.so, .int .i64 y.si, .int .i64 y.tld] 43 (0, 0)) ∧ V.heap[g5]? = some (.cells (opC 1 who kk nn B p.length d) 59 (0, 0))) (by kernel_rfl) (⟨HV3.out, HV4.out, HV5.out⟩) (fun hHeld => ?_)
        obtain ⟨wd, hwd⟩ : ∃ wd, wd = w3.drew := ⟨_, rfl⟩
        rw [← hwd] at hHeld ⊢
        have HBD := Aside0.mk (show Below w3.heap.size w3 wd by rw [hwd]; exact (Below.refl _ _).drew)
        have HDE := Lib.hid (show ∀ k : Nat, wd.heap[k]? = w3.heap[k]? by rw [hwd]; exact fun _ => rfl)
        have HDS := Lib.hid (show wd.heap.size = w3.heap.size by rw [hwd]; rfl)
        clear hwd
        have HZ6 := Aside0.mk ((HDE.out g6).trans HV6.out)
        have HZ7 := Aside0.mk ((HDE.out g7).trans HV7.out)
        have HW4 := Lib.hid (show w.heap.size ≤ wd.heap.size by have := HSW.out; have := HDS.out; omega)
        refine wpAnyH_take (i := 0) (v := ?_) rfl (by kernel_rfl) (by kernel_rfl) (by kernel_rfl) (fun _ _ _ h => h) (Or.inl ⟨by rfl, ?_⟩) (by assumption) ?_
        rotate_left 1
        · first | (intro w hSw; obtain ⟨⟨r0, r1, r2, r3, r4, r5, r6⟩, _⟩ := cells7 hSw.1; go_simp; done) | (intro w hSw; obtain ⟨⟨r0, r1, r2, r3, r4, r5, r6⟩, _⟩ := cells7 hSw.1; go_simp; with_reducible rfl)
        try simp only [Act.put, List.getElem_toArray, List.getElem_cons_zero, List.getElem_cons_succ, List.setIfInBounds_toArray, List.set_cons_zero, List.set_cons_succ]
        refine wpAnyH_take (i := 1) (v := ?_) rfl (by kernel_rfl) (by kernel_rfl) (by kernel_rfl) (fun _ _ _ h => h) (Or.inl ⟨by rfl, ?_⟩) (by assumption) ?_
        rotate_left 1
        · first | (intro w hSw; obtain ⟨⟨r0, r1, r2, r3, r4, r5, r6⟩, _⟩ := cells7 hSw.2.1; go_simp; done) | (intro w hSw; obtain ⟨⟨r0, r1, r2, r3, r4, r5, r6⟩, _⟩ := cells7 hSw.2.1; go_simp; with_reducible rfl)
        try simp only [Act.put, List.getElem_toArray, List.getElem_cons_zero, List.getElem_cons_succ, List.setIfInBounds_toArray, List.set_cons_zero, List.set_cons_succ]
        refine wpAnyH_take (i := 2) (v := ?_) rfl (by kernel_rfl) (by kernel_rfl) (by kernel_rfl) (fun _ _ _ h => h) (Or.inl ⟨by rfl, ?_⟩) (by assumption) ?_
        rotate_left 1
        · first | (intro w hSw; go_simp; done) | (intro w hSw; go_simp; with_reducible rfl)
        try simp only [Act.put, List.getElem_toArray, List.getElem_cons_zero, List.getElem_cons_succ, List.setIfInBounds_toArray, List.set_cons_zero, List.set_cons_succ]
        refine wpAnyH_take (i := 3) (v := ?_) rfl (by kernel_rfl) (by kernel_rfl) (by kernel_rfl) (fun _ _ _ h => h) (Or.inl ⟨by rfl, ?_⟩) (by assumption) ?_
        rotate_left 1
        · first | (intro w hSw; go_simp; done) | (intro w hSw; go_simp; with_reducible rfl)
        try simp only [Act.put, List.getElem_toArray, List.getElem_cons_zero, List.getElem_cons_succ, List.setIfInBounds_toArray, List.set_cons_zero, List.set_cons_succ]
        refine wpAnyH_take (i := 4) (v := undef) rfl (by kernel_rfl) (by kernel_rfl) (by kernel_rfl) (fun _ _ _ h => h) (Or.inr ⟨by rfl, rfl⟩) (by assumption) ?_
        try simp only [Act.put, List.getElem_toArray, List.getElem_cons_zero, List.getElem_cons_succ, List.setIfInBounds_toArray, List.set_cons_zero, List.set_cons_succ]
        refine wpAnyH_take (i := 5) (v := undef) rfl (by kernel_rfl) (by kernel_rfl) (by kernel_rfl) (fun _ _ _ h => h) (Or.inr ⟨by rfl, rfl⟩) (by assumption) ?_
        try simp only [Act.put, List.getElem_toArray, List.getElem_cons_zero, List.getElem_cons_succ, List.setIfInBounds_toArray, List.set_cons_zero, List.set_cons_succ]
        refine wpAnyH_take (i := 6) (v := undef) rfl (by kernel_rfl) (by kernel_rfl) (by kernel_rfl) (fun _ _ _ h => h) (Or.inr ⟨by rfl, rfl⟩) (by assumption) ?_
        try simp only [Act.put, List.getElem_toArray, List.getElem_cons_zero, List.getElem_cons_succ, List.setIfInBounds_toArray, List.set_cons_zero, List.set_cons_succ]
        refine wpAnyH_take (i := 7) (v := undef) rfl (by kernel_rfl) (by kernel_rfl) (by kernel_rfl) (fun _ _ _ h => h) (Or.inr ⟨by rfl, rfl⟩) (by assumption) ?_
        try simp only [Act.put, List.getElem_toArray, List.getElem_cons_zero, List.getElem_cons_succ, List.setIfInBounds_toArray, List.set_cons_zero, List.set_cons_succ]
        refine wpAnyH_take (i := 8) (v := ?_) rfl (by kernel_rfl) (by kernel_rfl) (by kernel_rfl) (fun _ _ _ h => h) (Or.inl ⟨by rfl, ?_⟩) (by assumption) ?_
        rotate_left 1
        · first | (intro w hSw; go_simp; done) | (intro w hSw; go_simp; with_reducible rfl)
        try simp only [Act.put, List.getElem_toArray, List.getElem_cons_zero, List.getElem_cons_succ, List.setIfInBounds_toArray, List.set_cons_zero, List.set_cons_succ]
        refine wpAnyH_ready (rs := [9]) (by kernel_rfl) (by simp) ?_
        refine AllReadyH.cons rfl (fun K hK => ?_) AllReadyH.nil
        have HSS := Lib.hid hHeld; obtain ⟨⟨r0, r1, r2, r3, r4, r5, r6⟩, s0, s1, s2, s3, s4, s5, s6⟩ := cells7 (show wd.heap[g6]? = some (.cells #[.pointer none, .slice none 0 0, .slice none 0 0, .slice none 0 0, .int .i64 0, .int .i64 0, .int .i64 0] 43 (0, 0)) from HZ6.out); go_simp
        refine hK.out _ _ (by rw [put7_fold]; exact ⟨(put7_ne _ (by have := HGE.out; omega) _ _ _ _ _ _ _).trans hHeld.1, (put7_ne _ (by have := HGE.out; omega) _ _ _ _ _ _ _).trans hHeld.2.1, (put7_ne _ (by have := HGE.out; omega) _ _ _ _ _ _ _).trans hHeld.2.2⟩) (fun hHeld => ?_)
        clear hK K
        try simp only [Act.put, List.getElem_toArray, List.getElem_cons_zero, List.getElem_cons_succ, List.setIfInBounds_toArray, List.set_cons_zero, List.set_cons_succ]
        generalize hw5 : (((((((wd.setCell ⟨g6, 0, none⟩ (.pointer (some ⟨pa, 0, none⟩))).setCell ⟨g6, 1, none⟩ (.slice Au x.und.length cu)).setCell ⟨g6, 2, none⟩ (.slice Ao x.out.length co)).setCell ⟨g6, 3, none⟩ (.slice Ai x.inn.length ci)).setCell ⟨g6, 4, none⟩ (.int .i64 x.so)).setCell ⟨g6, 5, none⟩ (.int .i64 x.si)).setCell ⟨g6, 6, none⟩ (.int .i64 x.tld)) = w5 at hHeld ⊢
        have HW5 := Lib.hid (show w5 = put7 wd g6 (.pointer (some ⟨pa, 0, none⟩)) (.slice Au x.und.length cu) (.slice Ao x.out.length co) (.slice Ai x.inn.length ci) (.int .i64 x.so) (.int .i64 x.si) (.int .i64 x.tld) from hw5.symm)
        have HZ7' := Aside0.mk (show w5.heap[g7]? = some (.cells #[.pointer none, .slice none 0 0, .slice none 0 0, .slice none 0 0, .int .i64 0, .int .i64 0, .int .i64 0] 43 (0, 0)) by rw [HW5.out]; exact (put7_ne _ (by have := HGE.out; omega) _ _ _ _ _ _ _).trans HZ7.out)
        clear hw5
        refine wpAnyH_ready (rs := [10]) (by kernel_rfl) (by simp) ?_
        refine AllReadyH.cons rfl (fun K hK => ?_) AllReadyH.nil
        obtain ⟨⟨r0, r1, r2, r3, r4, r5, r6⟩, s0, s1, s2, s3, s4, s5, s6⟩ := cells7 HZ7'.out; go_simp
        refine hK.out _ _ (by rw [put7_fold]; exact ⟨(put7_ne _ (by have := HGE.out; omega) _ _ _ _ _ _ _).trans hHeld.1, (put7_ne _ (by have := HGE.out; omega) _ _ _ _ _ _ _).trans hHeld.2.1, (put7_ne _ (by have := HGE.out; omega) _ _ _ _ _ _ _).trans hHeld.2.2⟩) (fun hHeld => ?_)
        clear hK K
        try simp only [Act.put, List.getElem_toArray, List.getElem_cons_zero, List.getElem_cons_succ, List.setIfInBounds_toArray, List.set_cons_zero, List.set_cons_succ]
        refine wpAnyH_take (i := 11) (v := ?_) rfl (by kernel_rfl) (by kernel_rfl) (by kernel_rfl) (fun _ _ _ h => h) (Or.inl ⟨by rfl, ?_⟩) (by assumption) ?_
        rotate_left 1
        · first | (intro w hSw; go_simp; done) | (intro w hSw; go_simp; with_reducible rfl)
        try simp only [Act.put, List.getElem_toArray, List.getElem_cons_zero, List.getElem_cons_succ, List.setIfInBounds_toArray, List.set_cons_zero, List.set_cons_succ]
        refine wpAnyH_done (by kernel_rfl) ?_ _
        refine NoPanic.normal ?_
        rw [put7_fold]
        obtain ⟨w9, hw9⟩ : ∃ w9, w9 = put7 w5 g7 (.pointer (some ⟨pb, 0, none⟩)) (.slice A2 yu.length c2') (.slice Aq y.out.length cq) (.slice Aj y.inn.length cj) (.int .i64 y.so) (.int .i64 y.si) (.int .i64 y.tld) := ⟨_, rfl⟩
        rw [← hw9]
        have hp9 : PutTwo w wd w9 g6 g7 := by rw [hw9, HW5.out]; exact put_two (by have := HGE.out; omega) (by have := HGE.out; omega) HW4.out _ _ _ _ _ _ _ _ _ _ _ _ _ _
        have hc6 : w9.heap[g6]? = some (.cells #[.pointer (some ⟨pa, 0, none⟩), .slice Au x.und.length cu, .slice Ao x.out.length co, .slice Ai x.inn.length ci, .int .i64 x.so, .int .i64 x.si, .int .i64 x.tld] 43 (0, 0)) := by rw [hw9, HW5.out]; exact (put7_ne _ (by have := HGE.out; omega) _ _ _ _ _ _ _).trans (put7_at (show wd.heap[g6]? = some (.cells #[.pointer none, .slice none 0 0, .slice none 0 0, .slice none 0 0, .int .i64 0, .int .i64 0, .int .i64 0] 43 (0, 0)) from HZ6.out) _ _ _ _ _ _ _)
        have hc7 : w9.heap[g7]? = some (.cells #[.pointer (some ⟨pb, 0, none⟩), .slice A2 yu.length c2', .slice Aq y.out.length cq, .slice Aj y.inn.length cj, .int .i64 y.so, .int .i64 y.si, .int .i64 y.tld] 43 (0, 0)) := by rw [hw9]; exact put7_at HZ7'.out _ _ _ _ _ _ _
        have HP9 := Aside0.mk hp9
        obtain ⟨⟨r0, r1, r2, r3, r4, r5, r6⟩, _⟩ := cells7 hc6
        obtain ⟨⟨q0, q1, q2, q3, q4, q5, q6⟩, _⟩ := cells7 hc7
        clear hw9 HW5 hp9 hc6 hc7 hHeld
        go_wp2
        (try simp only [Exit.inBlock, Exit.then])
        refine bodyPost_ret (v := .tuple #[.agg #[.pointer (some ⟨pa, 0, none⟩), .slice Au x.und.length cu, .slice Ao x.out.length co, .slice Ai x.inn.length ci, .int .i64 x.so, .int .i64 x.si, .int .i64 x.tld], .agg #[.pointer (some ⟨pb, 0, none⟩), .slice A2 yu.length c2', .slice Aq y.out.length cq, .slice Aj y.inn.length cj, .int .i64 y.so, .int .i64 y.si, .int .i64 y.tld], .bool true]) (by simp [results, Try.results24, go_sem, r0, r1, r2, r3, r4, r5, r6, q0, q1, q2, q3, q4, q5, q6]) rfl ?_
        have hge := HGE.out
        have hsz := HSZ.out
        have hgn : ∀ k, w.heap.size ≤ k → ¬ Ka k := fun k hk h => by have := HKA.out k h; omega
        have hb1 : Below w.heap.size w1 wd := HVB.out.trans (HBD.out.mono HSW.out)
        have hkw : ∀ k, k < w.heap.size → ¬ Ka k → wd.heap[k]? = w.heap[k]? := fun k hk hn => (hb1.block k hk).trans (HK1.out k hk hn)
        have hM : Moved w wd lo Ka Ka := ⟨(HBW.out.mono HLO.out).trans (HM1.out.below.trans (hb1.mono HLO.out)), ⟨HW4.out, hkw⟩, fun k hk => .inl hk⟩
        have hx4 := HX.out.step (w1 := wd) (fun k hk hlt => hkw k hlt (HFF.out k hk.1).1)
        have hy4 := HY.out.step (w1 := wd) (fun k hk hlt => hkw k hlt (HFF.out k hk.1).1)
        have hu4 := Kd.F_step (W1 := wd) HRO.out (fun k hk hlt => HDE.out k)
        have hs1 := HM1.out.kept.1
        obtain rfl := HYU.out
        obtain rfl := HPK.out
        refine step_end (x := { x with rcv := false }) (y := { y with und := _ }) (Ka' := Ka) HI.out.sends HP9.out (by omega) (by omega) (HZ1.out.move (fun k hk => hb1.block k (HKA.out k hk)) hb1.size) (HT.out.b.move (fun k hk => hkw k (HKB.out k hk) (fun h => HT.out.ap k h hk)) HW4.out) hM (SideAt.mono ⟨hx4.cu, hx4.fu, hx4.co, hx4.fo, hx4.ci, hx4.fi⟩ (fun k hk _ => .inl hk)) ⟨HRC.out, Kd.F_mono hu4 (fun k hk => ?_), hy4.co, Kd.F_mono hy4.fo (fun k hk => .inl hk), hy4.ci, Kd.F_mono hy4.fi (fun k hk => .inl hk)⟩ (hgn g6 (by omega)) (hgn g7 (by omega)) HT.out.ap HFF.out HKB.out HLO.out
        rcases hk with ⟨hk | hk, _⟩ | hk
        · exact .inl hk
        · exact .inr ⟨by omega, by omega, by omega, hgn k (by omega)⟩
        · exact .inr ⟨by omega, by omega, by omega, hgn k (by omega)⟩
      · have hno : x.so ≤ x.tld ∧ x.rcv = false := by
          refine ⟨?_, ?_⟩
          · rcases Nat.lt_or_ge x.tld x.so with h | h
            · exact absurd (.inl h) hgo
            · exact h
          · cases hr : x.rcv with
            | false => rfl
            | true => exact absurd (.inr hr) hgo
        have HNO := Lib.hid hno
        clear hgo hno
        go_upto_region 9 with (go_at_call 10; refine (linkPacketNone_calls wc lo Ka (enOf W x) pa (HI.out.fine (by have := HNN.out; omega)) (HT.out.a.stay HBW.out) HNO.out.1 HNO.out.2).mono ?_; rintro e w1 ⟨rfl, hd⟩; have hE1 := (show ∀ k : Nat, w1.heap[k]? = wc.heap[k]? by obtain ⟨⟨m, rfl⟩⟩ := hd; exact fun _ => rfl); have HBW1 := Aside0.mk (show Below w.heap.size w w1 by obtain ⟨⟨m, rfl⟩⟩ := hd; exact pw_below_drewN HBW.out _); have HQ3 := Aside0.mk ((hE1 g3).trans HG3.out); have HQ4 := Aside0.mk ((hE1 g4).trans HG4.out); have HQ5 := Aside0.mk ((hE1 g5).trans HG5.out); have HQ6 := Aside0.mk ((hE1 g6).trans HG6.out); have HQ7 := Aside0.mk ((hE1 g7).trans HG7.out); clear hd hE1)
        clear r0 HG3 HG4 HG5 HG6 HG7 k0 c1
        go_upto_region 11 with (fail)
        refine wp_region_noPanic ?_
        refine wp_region_held_drew (S := fun V => V.heap[g3]? = some (.cells (sdC x pa Au cu Ao co Ai ci) 43 (0, 0)) ∧ V.heap[g4]? = some (.cells (sdC y pb Av cv Aq cq Aj cj) 43 (0, 0)) ∧ V.heap[g5]? = some (.cells (opC 1 who kk nn B p.length d) 59 (0, 0))) (by kernel_rfl) (⟨HQ3.out, HQ4.out, HQ5.out⟩) (fun hHeld => ?_)
        obtain ⟨wd, hwd⟩ : ∃ wd, wd = w1.drew := ⟨_, rfl⟩
        rw [← hwd] at hHeld ⊢
        have HBD := Aside0.mk (show Below w1.heap.size w1 wd by rw [hwd]; exact (Below.refl _ _).drew)
        have HDE := Lib.hid (show ∀ k : Nat, wd.heap[k]? = w1.heap[k]? by rw [hwd]; exact fun _ => rfl)
        have HDS := Lib.hid (show wd.heap.size = w1.heap.size by rw [hwd]; rfl)
        clear hwd
        refine wpAnyH_take (i := 0) (v := ?_) rfl (by kernel_rfl) (by kernel_rfl) (by kernel_rfl) (fun _ _ _ h => h) (Or.inl ⟨by rfl, ?_⟩) (by assumption) ?_
        rotate_left 1
        · first | (intro w hSw; obtain ⟨⟨r0, r1, r2, r3, r4, r5, r6⟩, _⟩ := cells7 hSw.1; go_simp; done) | (intro w hSw; obtain ⟨⟨r0, r1, r2, r3, r4, r5, r6⟩, _⟩ := cells7 hSw.1; go_simp; with_reducible rfl)
        try simp only [Act.put, List.getElem_toArray, List.getElem_cons_zero, List.getElem_cons_succ, List.setIfInBounds_toArray, List.set_cons_zero, List.set_cons_succ]
        refine wpAnyH_take (i := 1) (v := ?_) rfl (by kernel_rfl) (by kernel_rfl) (by kernel_rfl) (fun _ _ _ h => h) (Or.inl ⟨by rfl, ?_⟩) (by assumption) ?_
        rotate_left 1
        · first | (intro w hSw; obtain ⟨⟨r0, r1, r2, r3, r4, r5, r6⟩, _⟩ := cells7 hSw.2.1; go_simp; done) | (intro w hSw; obtain ⟨⟨r0, r1, r2, r3, r4, r5, r6⟩, _⟩ := cells7 hSw.2.1; go_simp; with_reducible rfl)
        try simp only [Act.put, List.getElem_toArray, List.getElem_cons_zero, List.getElem_cons_succ, List.setIfInBounds_toArray, List.set_cons_zero, List.set_cons_succ]
        refine wpAnyH_take (i := 2) (v := ?_) rfl (by kernel_rfl) (by kernel_rfl) (by kernel_rfl) (fun _ _ _ h => h) (Or.inl ⟨by rfl, ?_⟩) (by assumption) ?_
        rotate_left 1
        · first | (intro w hSw; go_simp; done) | (intro w hSw; go_simp; with_reducible rfl)
        try simp only [Act.put, List.getElem_toArray, List.getElem_cons_zero, List.getElem_cons_succ, List.setIfInBounds_toArray, List.set_cons_zero, List.set_cons_succ]
        refine wpAnyH_take (i := 3) (v := ?_) rfl (by kernel_rfl) (by kernel_rfl) (by kernel_rfl) (fun _ _ _ h => h) (Or.inl ⟨by rfl, ?_⟩) (by assumption) ?_
        rotate_left 1
        · first | (intro w hSw; go_simp; done) | (intro w hSw; go_simp; with_reducible rfl)
        try simp only [Act.put, List.getElem_toArray, List.getElem_cons_zero, List.getElem_cons_succ, List.setIfInBounds_toArray, List.set_cons_zero, List.set_cons_succ]
        refine wpAnyH_take (i := 4) (v := ?_) rfl (by kernel_rfl) (by kernel_rfl) (by kernel_rfl) (fun _ _ _ h => h) (Or.inl ⟨by rfl, ?_⟩) (by assumption) ?_
        rotate_left 1
        · first | (intro w hSw; go_simp; done) | (intro w hSw; go_simp; with_reducible rfl)
        try simp only [Act.put, List.getElem_toArray, List.getElem_cons_zero, List.getElem_cons_succ, List.setIfInBounds_toArray, List.set_cons_zero, List.set_cons_succ]
        refine wpAnyH_take (i := 5) (v := ?_) rfl (by kernel_rfl) (by kernel_rfl) (by kernel_rfl) (fun _ _ _ h => h) (Or.inl ⟨by rfl, ?_⟩) (by assumption) ?_
        rotate_left 1
        · first | (intro w hSw; have r0 := blk_cell hSw.1 0; go_simp; done) | (intro w hSw; have r0 := blk_cell hSw.1 0; go_simp; with_reducible rfl)
        try simp only [Act.put, List.getElem_toArray, List.getElem_cons_zero, List.getElem_cons_succ, List.setIfInBounds_toArray, List.set_cons_zero, List.set_cons_succ]
        refine wpAnyH_ready (rs := [6]) (by kernel_rfl) (by simp) ?_
        refine AllReadyH.cons rfl (fun K hK => ?_) AllReadyH.nil
        go_simp
        have hop : ((enOf W x).so : Int) - (enOf W x).tld = 0 := (show (x.so : Int) - (x.tld : Int) = 0 by have := HI.out.a.to1; have := HNO.out.1; omega); have HBQ := Aside0.mk (show Below w.heap.size w wd from HBW1.out.trans (HBD.out.mono HBW1.out.size)); refine (linkOpen_calls wd lo Ka (enOf W x) pa (HI.out.fine (by have := HNN.out; omega)) (HT.out.a.stay HBQ.out)).mono ?_; rw [hop]; rintro e w4 ⟨rfl, hd⟩; have hE4 := (show ∀ k : Nat, w4.heap[k]? = wd.heap[k]? by obtain ⟨⟨m, rfl⟩⟩ := hd; exact fun _ => rfl); have HB4 := Aside0.mk (show Below w.heap.size w w4 by obtain ⟨⟨m, rfl⟩⟩ := hd; exact pw_below_drewN HBQ.out _); have HZ6 := Aside0.mk ((hE4 g6).trans ((HDE.out g6).trans HQ6.out)); have HZ7 := Aside0.mk ((hE4 g7).trans ((HDE.out g7).trans HQ7.out)); have HW4 := Lib.hid HB4.out.size; have hK4 := (⟨(hE4 g3).trans hHeld.1, (hE4 g4).trans hHeld.2.1, (hE4 g5).trans hHeld.2.2⟩ : (w4.heap[g3]? = some (.cells (sdC x pa Au cu Ao co Ai ci) 43 (0, 0)) ∧ w4.heap[g4]? = some (.cells (sdC y pb Av cv Aq cq Aj cj) 43 (0, 0)) ∧ w4.heap[g5]? = some (.cells (opC 1 who kk nn B p.length d) 59 (0, 0)))); clear hd hop hE4
        go_simp
        refine hK.out _ _ hK4 (fun hHeld => ?_)
        clear hK K
        try simp only [Act.put, List.getElem_toArray, List.getElem_cons_zero, List.getElem_cons_succ, List.setIfInBounds_toArray, List.set_cons_zero, List.set_cons_succ]
        refine wpAnyH_take (i := 7) (v := ?_) rfl (by kernel_rfl) (by kernel_rfl) (by kernel_rfl) (fun _ _ _ h => h) (Or.inl ⟨by rfl, ?_⟩) (by assumption) ?_
        rotate_left 1
        · first | (intro w hSw; go_simp; done) | (intro w hSw; go_simp; with_reducible rfl)
        try simp only [Act.put, List.getElem_toArray, List.getElem_cons_zero, List.getElem_cons_succ, List.setIfInBounds_toArray, List.set_cons_zero, List.set_cons_succ]
        refine wpAnyH_take (i := 8) (v := ?_) rfl (by kernel_rfl) (by kernel_rfl) (by kernel_rfl) (fun _ _ _ h => h) (Or.inl ⟨by rfl, ?_⟩) (by assumption) ?_
        rotate_left 1
        · first | (intro w hSw; go_simp; done) | (intro w hSw; go_simp; with_reducible rfl)
        try simp only [Act.put, List.getElem_toArray, List.getElem_cons_zero, List.getElem_cons_succ, List.setIfInBounds_toArray, List.set_cons_zero, List.set_cons_succ]
        refine wpAnyH_ready (rs := [9]) (by kernel_rfl) (by simp) ?_
        refine AllReadyH.cons rfl (fun K hK => ?_) AllReadyH.nil
        have HSS := Lib.hid hHeld; obtain ⟨⟨r0, r1, r2, r3, r4, r5, r6⟩, s0, s1, s2, s3, s4, s5, s6⟩ := cells7 (show w4.heap[g6]? = some (.cells #[.pointer none, .slice none 0 0, .slice none 0 0, .slice none 0 0, .int .i64 0, .int .i64 0, .int .i64 0] 43 (0, 0)) from HZ6.out); go_simp
        refine hK.out _ _ (by rw [put7_fold]; exact ⟨(put7_ne _ (by have := HGE.out; omega) _ _ _ _ _ _ _).trans hHeld.1, (put7_ne _ (by have := HGE.out; omega) _ _ _ _ _ _ _).trans hHeld.2.1, (put7_ne _ (by have := HGE.out; omega) _ _ _ _ _ _ _).trans hHeld.2.2⟩) (fun hHeld => ?_)
        clear hK K
        try simp only [Act.put, List.getElem_toArray, List.getElem_cons_zero, List.getElem_cons_succ, List.setIfInBounds_toArray, List.set_cons_zero, List.set_cons_succ]
        generalize hw5 : (((((((w4.setCell ⟨g6, 0, none⟩ (.pointer (some ⟨pa, 0, none⟩))).setCell ⟨g6, 1, none⟩ (.slice Au x.und.length cu)).setCell ⟨g6, 2, none⟩ (.slice Ao x.out.length co)).setCell ⟨g6, 3, none⟩ (.slice Ai x.inn.length ci)).setCell ⟨g6, 4, none⟩ (.int .i64 x.so)).setCell ⟨g6, 5, none⟩ (.int .i64 x.si)).setCell ⟨g6, 6, none⟩ (.int .i64 x.tld)) = w5 at hHeld ⊢
        have HW5 := Lib.hid (show w5 = put7 w4 g6 (.pointer (some ⟨pa, 0, none⟩)) (.slice Au x.und.length cu) (.slice Ao x.out.length co) (.slice Ai x.inn.length ci) (.int .i64 x.so) (.int .i64 x.si) (.int .i64 x.tld) from hw5.symm)
        have HZ7' := Aside0.mk (show w5.heap[g7]? = some (.cells #[.pointer none, .slice none 0 0, .slice none 0 0, .slice none 0 0, .int .i64 0, .int .i64 0, .int .i64 0] 43 (0, 0)) by rw [HW5.out]; exact (put7_ne _ (by have := HGE.out; omega) _ _ _ _ _ _ _).trans HZ7.out)
        clear hw5
        refine wpAnyH_ready (rs := [10]) (by kernel_rfl) (by simp) ?_
        refine AllReadyH.cons rfl (fun K hK => ?_) AllReadyH.nil
        obtain ⟨⟨r0, r1, r2, r3, r4, r5, r6⟩, s0, s1, s2, s3, s4, s5, s6⟩ := cells7 HZ7'.out; go_simp
        refine hK.out _ _ (by rw [put7_fold]; exact ⟨(put7_ne _ (by have := HGE.out; omega) _ _ _ _ _ _ _).trans hHeld.1, (put7_ne _ (by have := HGE.out; omega) _ _ _ _ _ _ _).trans hHeld.2.1, (put7_ne _ (by have := HGE.out; omega) _ _ _ _ _ _ _).trans hHeld.2.2⟩) (fun hHeld => ?_)
        clear hK K
        try simp only [Act.put, List.getElem_toArray, List.getElem_cons_zero, List.getElem_cons_succ, List.setIfInBounds_toArray, List.set_cons_zero, List.set_cons_succ]
        refine wpAnyH_take (i := 11) (v := ?_) rfl (by kernel_rfl) (by kernel_rfl) (by kernel_rfl) (fun _ _ _ h => h) (Or.inl ⟨by rfl, ?_⟩) (by assumption) ?_
        rotate_left 1
        · first | (intro w hSw; go_simp; done) | (intro w hSw; go_simp; with_reducible rfl)
        try simp only [Act.put, List.getElem_toArray, List.getElem_cons_zero, List.getElem_cons_succ, List.setIfInBounds_toArray, List.set_cons_zero, List.set_cons_succ]
        refine wpAnyH_done (by kernel_rfl) ?_ _
        refine NoPanic.normal ?_
        rw [put7_fold]
        obtain ⟨w9, hw9⟩ : ∃ w9, w9 = put7 w5 g7 (.pointer (some ⟨pb, 0, none⟩)) (.slice Av y.und.length cv) (.slice Aq y.out.length cq) (.slice Aj y.inn.length cj) (.int .i64 y.so) (.int .i64 y.si) (.int .i64 y.tld) := ⟨_, rfl⟩
        rw [← hw9]
        have hp9 : PutTwo w w4 w9 g6 g7 := by rw [hw9, HW5.out]; exact put_two (by have := HGE.out; omega) (by have := HGE.out; omega) HW4.out _ _ _ _ _ _ _ _ _ _ _ _ _ _
        have hc6 : w9.heap[g6]? = some (.cells #[.pointer (some ⟨pa, 0, none⟩), .slice Au x.und.length cu, .slice Ao x.out.length co, .slice Ai x.inn.length ci, .int .i64 x.so, .int .i64 x.si, .int .i64 x.tld] 43 (0, 0)) := by rw [hw9, HW5.out]; exact (put7_ne _ (by have := HGE.out; omega) _ _ _ _ _ _ _).trans (put7_at (show w4.heap[g6]? = some (.cells #[.pointer none, .slice none 0 0, .slice none 0 0, .slice none 0 0, .int .i64 0, .int .i64 0, .int .i64 0] 43 (0, 0)) from HZ6.out) _ _ _ _ _ _ _)
        have hc7 : w9.heap[g7]? = some (.cells #[.pointer (some ⟨pb, 0, none⟩), .slice Av y.und.length cv, .slice Aq y.out.length cq, .slice Aj y.inn.length cj, .int .i64 y.so, .int .i64 y.si, .int .i64 y.tld] 43 (0, 0)) := by rw [hw9]; exact put7_at HZ7'.out _ _ _ _ _ _ _
        have HP9 := Aside0.mk hp9
        obtain ⟨⟨r0, r1, r2, r3, r4, r5, r6⟩, _⟩ := cells7 hc6
        obtain ⟨⟨q0, q1, q2, q3, q4, q5, q6⟩, _⟩ := cells7 hc7
        clear hw9 HW5 hp9 hc6 hc7 hHeld
        go_wp2
        (try simp only [Exit.inBlock, Exit.then])
        refine bodyPost_ret (v := .tuple #[.agg #[.pointer (some ⟨pa, 0, none⟩), .slice Au x.und.length cu, .slice Ao x.out.length co, .slice Ai x.inn.length ci, .int .i64 x.so, .int .i64 x.si, .int .i64 x.tld], .agg #[.pointer (some ⟨pb, 0, none⟩), .slice Av y.und.length cv, .slice Aq y.out.length cq, .slice Aj y.inn.length cj, .int .i64 y.so, .int .i64 y.si, .int .i64 y.tld], .bool true]) (by simp [results, Try.results24, go_sem, r0, r1, r2, r3, r4, r5, r6, q0, q1, q2, q3, q4, q5, q6]) rfl ?_
        have hge := HGE.out
        have hgn : ∀ k, w.heap.size ≤ k → ¬ Ka k := fun k hk h => by have := HKA.out k h; omega
        have hM : Moved w w4 lo Ka Ka := ⟨HB4.out.mono HLO.out, ⟨HB4.out.size, fun k hk _ => HB4.out.block k hk⟩, fun k hk => .inl hk⟩
        have hx4 := HX.out.step (w1 := w4) (fun k hk hlt => HB4.out.block k hlt)
        have hy4 := HY.out.step (w1 := w4) (fun k hk hlt => HB4.out.block k hlt)
        exact step_end (x := x) (y := y) (Ka' := Ka) (HI.out.more (Nat.le_succ _)) HP9.out (by omega) (by omega) (HT.out.a.stay HB4.out) (HT.out.b.stay HB4.out) hM (hx4.mono (fun k hk _ => .inl hk)) (hy4.mono (fun k hk _ => .inl hk)) (hgn g6 (by omega)) (hgn g7 (by omega)) HT.out.ap HFF.out HKB.out HLO.out
    have e1 : (kind == 1) = false := beq_eq_false_iff_ne.2 hk1
    go_upto_region 12 with (fail)
    by_cases hk5 : kind = 5
    · -- COMMIT
      subst hk5
      have k2 := blk_cell HG3.out 2
      have r4 := blk_cell HG3.out 4
      have f4 := blk_frozen HG3.out 4
      have ob : (x.out.length : Int) ≤ 100000 := by have := HI.out.na; have := HNN.out; omega
      have ib : (x.inn.length : Int) ≤ 100000 := by have := (HI.out.fine (by have := HNN.out; omega)).gl; have e : (enOf W x).got = x.inn.length := rfl; omega
      go_upto_region 14 with (fail)
      obtain ⟨wa, hw⟩ : ∃ wa, wa = wc.setCell ⟨g3, 4, none⟩ (.int .i64 x.out.length) := ⟨_, rfl⟩
      rw [← hw]
      have hne : ∀ k : Nat, k ≠ g3 → wa.heap[k]? = wc.heap[k]? := fun k hk => by rw [hw]; exact Below.heap_setCell _ _ _ _ (by exact hk)
      have HU3 := Aside0.mk (show wa.heap[g3]? = some (.cells #[.pointer (some ⟨pa, 0, none⟩), .slice Au x.und.length cu, .slice Ao x.out.length co, .slice Ai x.inn.length ci, .int .i64 x.out.length, .int .i64 x.si, .int .i64 x.tld] 43 (0, 0)) by rw [hw]; exact blk_set HG3.out 4 (.int .i64 x.out.length))
      have HU4 := Aside0.mk ((hne g4 (by have := HGE.out; omega)).trans HG4.out)
      have HU5 := Aside0.mk ((hne g5 (by have := HGE.out; omega)).trans HG5.out)
      have HU6 := Aside0.mk ((hne g6 (by have := HGE.out; omega)).trans HG6.out)
      have HU7 := Aside0.mk ((hne g7 (by have := HGE.out; omega)).trans HG7.out)
      have HUB := Aside0.mk (show Below w.heap.size w wa by rw [hw]; exact HBW.out.setCell (show w.heap.size ≤ g3 by have := HGE.out; omega) _)
      have HUS := Lib.hid (show wa.heap.size = wc.heap.size by rw [hw]; exact set_size _ _ _ _)
      have HUE := Lib.hid hne
      clear hw hne
      clear k2 r4 f4 HG3 HG4 HG5 HG6 HG7
      have r3 := blk_cell HU3.out 3
      have r5 := blk_cell HU3.out 5
      have f5 := blk_frozen HU3.out 5
      go_upto_region 15 with (fail)
      obtain ⟨w2, hw⟩ : ∃ w2, w2 = wa.setCell ⟨g3, 5, none⟩ (.int .i64 x.inn.length) := ⟨_, rfl⟩
      rw [← hw]
      have hne : ∀ k : Nat, k ≠ g3 → w2.heap[k]? = wa.heap[k]? := fun k hk => by rw [hw]; exact Below.heap_setCell _ _ _ _ (by exact hk)
      have HV3 := Aside0.mk (show w2.heap[g3]? = some (.cells #[.pointer (some ⟨pa, 0, none⟩), .slice Au x.und.length cu, .slice Ao x.out.length co, .slice Ai x.inn.length ci, .int .i64 x.out.length, .int .i64 x.inn.length, .int .i64 x.tld] 43 (0, 0)) by rw [hw]; exact blk_set HU3.out 5 (.int .i64 x.inn.length))
      have HV4 := Aside0.mk ((hne g4 (by have := HGE.out; omega)).trans HU4.out)
      have HV5 := Aside0.mk ((hne g5 (by have := HGE.out; omega)).trans HU5.out)
      have HV6 := Aside0.mk ((hne g6 (by have := HGE.out; omega)).trans HU6.out)
      have HV7 := Aside0.mk ((hne g7 (by have := HGE.out; omega)).trans HU7.out)
      have HVB := Aside0.mk (show Below w.heap.size w w2 by rw [hw]; exact HUB.out.setCell (show w.heap.size ≤ g3 by have := HGE.out; omega) _)
      have HVS := Lib.hid (show w2.heap.size = wa.heap.size by rw [hw]; exact set_size _ _ _ _)
      have HVE := Lib.hid hne
      clear hw hne
      clear r3 r5 f5 HU3 HU4 HU5 HU6 HU7
      refine wp_region_noPanic ?_
      refine wp_region_held_drew (S := fun V => V.heap[g3]? = some (.cells #[.pointer (some ⟨pa, 0, none⟩), .slice Au x.und.length cu, .slice Ao x.out.length co, .slice Ai x.inn.length ci, .int .i64 x.out.length, .int .i64 x.inn.length, .int .i64 x.tld] 43 (0, 0)) ∧ V.heap[g4]? = some (.cells (sdC y pb Av cv Aq cq Aj cj) 43 (0, 0)) ∧ V.heap[g5]? = some (.cells (opC 5 who kk nn B p.length d) 59 (0, 0))) (by kernel_rfl) (⟨HV3.out, HV4.out, HV5.out⟩) (fun hHeld => ?_)
      obtain ⟨wd, hwd⟩ : ∃ wd, wd = w2.drew := ⟨_, rfl⟩
      rw [← hwd] at hHeld ⊢
      have HBD := Aside0.mk (show Below w2.heap.size w2 wd by rw [hwd]; exact (Below.refl _ _).drew)
      have HDE := Lib.hid (show ∀ k : Nat, wd.heap[k]? = w2.heap[k]? by rw [hwd]; exact fun _ => rfl)
      have HDS := Lib.hid (show wd.heap.size = w2.heap.size by rw [hwd]; rfl)
      clear hwd
      refine wpAnyH_take (i := 0) (v := ?_) rfl (by kernel_rfl) (by kernel_rfl) (by kernel_rfl) (fun _ _ _ h => h) (Or.inl ⟨by rfl, ?_⟩) (by assumption) ?_
      rotate_left 1
      · first | (intro w hSw; obtain ⟨⟨r0, r1, r2, r3, r4, r5, r6⟩, _⟩ := cells7 hSw.1; go_simp; done) | (intro w hSw; obtain ⟨⟨r0, r1, r2, r3, r4, r5, r6⟩, _⟩ := cells7 hSw.1; go_simp; with_reducible rfl)
      try simp only [Act.put, List.getElem_toArray, List.getElem_cons_zero, List.getElem_cons_succ, List.setIfInBounds_toArray, List.set_cons_zero, List.set_cons_succ]
      refine wpAnyH_take (i := 1) (v := ?_) rfl (by kernel_rfl) (by kernel_rfl) (by kernel_rfl) (fun _ _ _ h => h) (Or.inl ⟨by rfl, ?_⟩) (by assumption) ?_
      rotate_left 1
      · first | (intro w hSw; obtain ⟨⟨r0, r1, r2, r3, r4, r5, r6⟩, _⟩ := cells7 hSw.2.1; go_simp; done) | (intro w hSw; obtain ⟨⟨r0, r1, r2, r3, r4, r5, r6⟩, _⟩ := cells7 hSw.2.1; go_simp; with_reducible rfl)
      try simp only [Act.put, List.getElem_toArray, List.getElem_cons_zero, List.getElem_cons_succ, List.setIfInBounds_toArray, List.set_cons_zero, List.set_cons_succ]
      refine wpAnyH_take (i := 2) (v := ?_) rfl (by kernel_rfl) (by kernel_rfl) (by kernel_rfl) (fun _ _ _ h => h) (Or.inl ⟨by rfl, ?_⟩) (by assumption) ?_
      rotate_left 1
      · first | (intro w hSw; go_simp; done) | (intro w hSw; go_simp; with_reducible rfl)
      try simp only [Act.put, List.getElem_toArray, List.getElem_cons_zero, List.getElem_cons_succ, List.setIfInBounds_toArray, List.set_cons_zero, List.set_cons_succ]
      refine wpAnyH_take (i := 3) (v := ?_) rfl (by kernel_rfl) (by kernel_rfl) (by kernel_rfl) (fun _ _ _ h => h) (Or.inl ⟨by rfl, ?_⟩) (by assumption) ?_
      rotate_left 1
      · first | (intro w hSw; have r0 := blk_cell hSw.1 0; go_simp; done) | (intro w hSw; have r0 := blk_cell hSw.1 0; go_simp; with_reducible rfl)
      try simp only [Act.put, List.getElem_toArray, List.getElem_cons_zero, List.getElem_cons_succ, List.setIfInBounds_toArray, List.set_cons_zero, List.set_cons_succ]
      refine wpAnyH_ready (rs := [4]) (by kernel_rfl) (by simp) ?_
      refine AllReadyH.cons rfl (fun K hK => ?_) AllReadyH.nil
      go_simp
      have HBQ := Aside0.mk (show Below w.heap.size w wd from HVB.out.trans (HBD.out.mono HVB.out.size)); refine (linkCommit_calls wd lo Ka (enOf W x) pa (HI.out.fine (by have := HNN.out; omega)) (HT.out.a.stay HBQ.out)).mono ?_; rintro e w4 ⟨rfl, hz, hm⟩; have HZ4 := Aside0.mk hz; have HM4 := Aside0.mk hm; have HGN := Lib.hid (show ∀ k, w.heap.size ≤ k → ¬ Ka k from fun k hk h => by have := HKA.out k h; omega); have HKP := Lib.hid (show ∀ k, k < w2.heap.size → ¬ Ka k → w4.heap[k]? = w2.heap[k]? from fun k hk hn => (hm.kept.2 k (by have := HDS.out; omega) hn).trans (HBD.out.block k hk)); have HZ6 := Aside0.mk ((HKP.out g6 (blk_lt HV6.out) (HGN.out _ (by have := HGE.out; omega))).trans HV6.out); have HZ7 := Aside0.mk ((HKP.out g7 (blk_lt HV7.out) (HGN.out _ (by have := HGE.out; omega))).trans HV7.out); have HW4 := Lib.hid (show w.heap.size ≤ w4.heap.size from Nat.le_trans HBQ.out.size hm.below.size); have hK4 := (⟨(HKP.out g3 (blk_lt HV3.out) (HGN.out _ (by have := HGE.out; omega))).trans HV3.out, (HKP.out g4 (blk_lt HV4.out) (HGN.out _ (by have := HGE.out; omega))).trans HV4.out, (HKP.out g5 (blk_lt HV5.out) (HGN.out _ (by have := HGE.out; omega))).trans HV5.out⟩ : (w4.heap[g3]? = some (.cells #[.pointer (some ⟨pa, 0, none⟩), .slice Au x.und.length cu, .slice Ao x.out.length co, .slice Ai x.inn.length ci, .int .i64 x.out.length, .int .i64 x.inn.length, .int .i64 x.tld] 43 (0, 0)) ∧ w4.heap[g4]? = some (.cells (sdC y pb Av cv Aq cq Aj cj) 43 (0, 0)) ∧ w4.heap[g5]? = some (.cells (opC 5 who kk nn B p.length d) 59 (0, 0)))); clear hz hm
      go_simp
      refine hK.out _ _ hK4 (fun hHeld => ?_)
      clear hK K
      try simp only [Act.put, List.getElem_toArray, List.getElem_cons_zero, List.getElem_cons_succ, List.setIfInBounds_toArray, List.set_cons_zero, List.set_cons_succ]
      refine wpAnyH_take (i := 5) (v := ?_) rfl (by kernel_rfl) (by kernel_rfl) (by kernel_rfl) (fun _ _ _ h => h) (Or.inl ⟨by rfl, ?_⟩) (by assumption) ?_
      rotate_left 1
      · first | (intro w hSw; go_simp; done) | (intro w hSw; go_simp; with_reducible rfl)
      try simp only [Act.put, List.getElem_toArray, List.getElem_cons_zero, List.getElem_cons_succ, List.setIfInBounds_toArray, List.set_cons_zero, List.set_cons_succ]
      refine wpAnyH_ready (rs := [6]) (by kernel_rfl) (by simp) ?_
      refine AllReadyH.cons rfl (fun K hK => ?_) AllReadyH.nil
      have HSS := Lib.hid hHeld; obtain ⟨⟨r0, r1, r2, r3, r4, r5, r6⟩, s0, s1, s2, s3, s4, s5, s6⟩ := cells7 (show w4.heap[g6]? = some (.cells #[.pointer none, .slice none 0 0, .slice none 0 0, .slice none 0 0, .int .i64 0, .int .i64 0, .int .i64 0] 43 (0, 0)) from HZ6.out); go_simp
      refine hK.out _ _ (by rw [put7_fold]; exact ⟨(put7_ne _ (by have := HGE.out; omega) _ _ _ _ _ _ _).trans hHeld.1, (put7_ne _ (by have := HGE.out; omega) _ _ _ _ _ _ _).trans hHeld.2.1, (put7_ne _ (by have := HGE.out; omega) _ _ _ _ _ _ _).trans hHeld.2.2⟩) (fun hHeld => ?_)
      clear hK K
      try simp only [Act.put, List.getElem_toArray, List.getElem_cons_zero, List.getElem_cons_succ, List.setIfInBounds_toArray, List.set_cons_zero, List.set_cons_succ]
      generalize hw5 : (((((((w4.setCell ⟨g6, 0, none⟩ (.pointer (some ⟨pa, 0, none⟩))).setCell ⟨g6, 1, none⟩ (.slice Au x.und.length cu)).setCell ⟨g6, 2, none⟩ (.slice Ao x.out.length co)).setCell ⟨g6, 3, none⟩ (.slice Ai x.inn.length ci)).setCell ⟨g6, 4, none⟩ (.int .i64 x.out.length)).setCell ⟨g6, 5, none⟩ (.int .i64 x.inn.length)).setCell ⟨g6, 6, none⟩ (.int .i64 x.tld)) = w5 at hHeld ⊢
      have HW5 := Lib.hid (show w5 = put7 w4 g6 (.pointer (some ⟨pa, 0, none⟩)) (.slice Au x.und.length cu) (.slice Ao x.out.length co) (.slice Ai x.inn.length ci) (.int .i64 x.out.length) (.int .i64 x.inn.length) (.int .i64 x.tld) from hw5.symm)
      have HZ7' := Aside0.mk (show w5.heap[g7]? = some (.cells #[.pointer none, .slice none 0 0, .slice none 0 0, .slice none 0 0, .int .i64 0, .int .i64 0, .int .i64 0] 43 (0, 0)) by rw [HW5.out]; exact (put7_ne _ (by have := HGE.out; omega) _ _ _ _ _ _ _).trans HZ7.out)
      clear hw5
      refine wpAnyH_ready (rs := [7]) (by kernel_rfl) (by simp) ?_
      refine AllReadyH.cons rfl (fun K hK => ?_) AllReadyH.nil
      obtain ⟨⟨r0, r1, r2, r3, r4, r5, r6⟩, s0, s1, s2, s3, s4, s5, s6⟩ := cells7 HZ7'.out; go_simp
      refine hK.out _ _ (by rw [put7_fold]; exact ⟨(put7_ne _ (by have := HGE.out; omega) _ _ _ _ _ _ _).trans hHeld.1, (put7_ne _ (by have := HGE.out; omega) _ _ _ _ _ _ _).trans hHeld.2.1, (put7_ne _ (by have := HGE.out; omega) _ _ _ _ _ _ _).trans hHeld.2.2⟩) (fun hHeld => ?_)
      clear hK K
      try simp only [Act.put, List.getElem_toArray, List.getElem_cons_zero, List.getElem_cons_succ, List.setIfInBounds_toArray, List.set_cons_zero, List.set_cons_succ]
      refine wpAnyH_take (i := 8) (v := ?_) rfl (by kernel_rfl) (by kernel_rfl) (by kernel_rfl) (fun _ _ _ h => h) (Or.inl ⟨by rfl, ?_⟩) (by assumption) ?_
      rotate_left 1
      · first | (intro w hSw; go_simp; done) | (intro w hSw; go_simp; with_reducible rfl)
      try simp only [Act.put, List.getElem_toArray, List.getElem_cons_zero, List.getElem_cons_succ, List.setIfInBounds_toArray, List.set_cons_zero, List.set_cons_succ]
      refine wpAnyH_done (by kernel_rfl) ?_ _
      refine NoPanic.normal ?_
      rw [put7_fold]
      obtain ⟨w9, hw9⟩ : ∃ w9, w9 = put7 w5 g7 (.pointer (some ⟨pb, 0, none⟩)) (.slice Av y.und.length cv) (.slice Aq y.out.length cq) (.slice Aj y.inn.length cj) (.int .i64 y.so) (.int .i64 y.si) (.int .i64 y.tld) := ⟨_, rfl⟩
      rw [← hw9]
      have hp9 : PutTwo w w4 w9 g6 g7 := by rw [hw9, HW5.out]; exact put_two (by have := HGE.out; omega) (by have := HGE.out; omega) HW4.out _ _ _ _ _ _ _ _ _ _ _ _ _ _
      have hc6 : w9.heap[g6]? = some (.cells #[.pointer (some ⟨pa, 0, none⟩), .slice Au x.und.length cu, .slice Ao x.out.length co, .slice Ai x.inn.length ci, .int .i64 x.out.length, .int .i64 x.inn.length, .int .i64 x.tld] 43 (0, 0)) := by rw [hw9, HW5.out]; exact (put7_ne _ (by have := HGE.out; omega) _ _ _ _ _ _ _).trans (put7_at (show w4.heap[g6]? = some (.cells #[.pointer none, .slice none 0 0, .slice none 0 0, .slice none 0 0, .int .i64 0, .int .i64 0, .int .i64 0] 43 (0, 0)) from HZ6.out) _ _ _ _ _ _ _)
      have hc7 : w9.heap[g7]? = some (.cells #[.pointer (some ⟨pb, 0, none⟩), .slice Av y.und.length cv, .slice Aq y.out.length cq, .slice Aj y.inn.length cj, .int .i64 y.so, .int .i64 y.si, .int .i64 y.tld] 43 (0, 0)) := by rw [hw9]; exact put7_at HZ7'.out _ _ _ _ _ _ _
      have HP9 := Aside0.mk hp9
      obtain ⟨⟨r0, r1, r2, r3, r4, r5, r6⟩, _⟩ := cells7 hc6
      obtain ⟨⟨q0, q1, q2, q3, q4, q5, q6⟩, _⟩ := cells7 hc7
      clear hw9 HW5 hp9 hc6 hc7 hHeld
      go_wp2
      (try simp only [Exit.inBlock, Exit.then])
      refine bodyPost_ret (v := .tuple #[.agg #[.pointer (some ⟨pa, 0, none⟩), .slice Au x.und.length cu, .slice Ao x.out.length co, .slice Ai x.inn.length ci, .int .i64 x.out.length, .int .i64 x.inn.length, .int .i64 x.tld], .agg #[.pointer (some ⟨pb, 0, none⟩), .slice Av y.und.length cv, .slice Aq y.out.length cq, .slice Aj y.inn.length cj, .int .i64 y.so, .int .i64 y.si, .int .i64 y.tld], .bool true]) (by simp [results, Try.results24, go_sem, r0, r1, r2, r3, r4, r5, r6, q0, q1, q2, q3, q4, q5, q6]) rfl ?_
      have hsz := HSZ.out
      have hge := HGE.out
      have hkw : ∀ k, k < w.heap.size → ¬ Ka k → w4.heap[k]? = w.heap[k]? := fun k hk hn => (HKP.out k (Nat.lt_of_lt_of_le hk HVB.out.size) hn).trans (HVB.out.block k hk)
      have hM : Moved w w4 lo Ka Ka := Moved.trans (K1 := Ka) ⟨HBQ.out.mono HLO.out, ⟨HBQ.out.size, fun k hk _ => HBQ.out.block k hk⟩, fun k hk => .inl hk⟩ HM4.out
      have hx4 := HX.out.step (w1 := w4) (fun k hk hlt => hkw k hlt (HFF.out k hk.1).1)
      have hy4 := HY.out.step (w1 := w4) (fun k hk hlt => hkw k hlt (HFF.out k hk.1).1)
      have hb4 := HT.out.b.move (fun k hk => hkw k (HKB.out k hk) (fun h => HT.out.ap k h hk)) HW4.out
      exact step_end (x := x.commit) (y := y) (Ka' := Ka) (HI.out.commit.more (Nat.le_succ _)) HP9.out (by omega) (by omega) HZ4.out hb4 hM ⟨hx4.cu, Kd.F_mono hx4.fu (fun k hk => .inl hk), hx4.co, Kd.F_mono hx4.fo (fun k hk => .inl hk), hx4.ci, Kd.F_mono hx4.fi (fun k hk => .inl hk)⟩ (hy4.mono (fun k hk _ => .inl hk)) (HGN.out g6 (by omega)) (HGN.out g7 (by omega)) HT.out.ap HFF.out HKB.out HLO.out
    have e5 : (kind == 5) = false := beq_eq_false_iff_ne.2 hk5
    go_upto_region 16 with (fail)
    by_cases hk6 : kind = 6
    · -- CRASH
      subst hk6
      have r2 := blk_cell HG3.out 2
      have r4 := blk_cell HG3.out 4
      have f2 := blk_frozen HG3.out 2
      obtain ⟨xo, hxo⟩ : ∃ xo, xo = x.out.take x.so := ⟨_, rfl⟩
      obtain ⟨xi, hxi⟩ : ∃ xi, xi = x.inn.take x.si := ⟨_, rfl⟩
      obtain ⟨hro, hfo, hco⟩ := S_head HX.out.fo HI.out.a.so1 HX.out.co xo hxo
      obtain ⟨hri, hfi, hci⟩ := S_head HX.out.fi HI.out.a.si1 HX.out.ci xi hxi
      have HFO := Aside0.mk hfo
      have HFI := Aside0.mk hfi
      have HCO := Lib.hid hco
      have HCI := Lib.hid hci
      have HXO := Lib.hid hxo
      have HXI := Lib.hid hxi
      clear hfo hfi hco hci hxo hxi
      go_upto_region 18 with (fail)
      obtain ⟨wa, hw⟩ : ∃ wa, wa = wc.setCell ⟨g3, 2, none⟩ (.slice Ao xo.length co) := ⟨_, rfl⟩
      rw [← hw]
      have hne : ∀ k : Nat, k ≠ g3 → wa.heap[k]? = wc.heap[k]? := fun k hk => by rw [hw]; exact Below.heap_setCell _ _ _ _ (by exact hk)
      have HU3 := Aside0.mk (show wa.heap[g3]? = some (.cells #[.pointer (some ⟨pa, 0, none⟩), .slice Au x.und.length cu, .slice Ao xo.length co, .slice Ai x.inn.length ci, .int .i64 x.so, .int .i64 x.si, .int .i64 x.tld] 43 (0, 0)) by rw [hw]; exact blk_set HG3.out 2 (.slice Ao xo.length co))
      have HU4 := Aside0.mk ((hne g4 (by have := HGE.out; omega)).trans HG4.out)
      have HU5 := Aside0.mk ((hne g5 (by have := HGE.out; omega)).trans HG5.out)
      have HU6 := Aside0.mk ((hne g6 (by have := HGE.out; omega)).trans HG6.out)
      have HU7 := Aside0.mk ((hne g7 (by have := HGE.out; omega)).trans HG7.out)
      have HUB := Aside0.mk (show Below w.heap.size w wa by rw [hw]; exact HBW.out.setCell (show w.heap.size ≤ g3 by have := HGE.out; omega) _)
      have HUS := Lib.hid (show wa.heap.size = wc.heap.size by rw [hw]; exact set_size _ _ _ _)
      have HUE := Lib.hid hne
      clear hw hne
      clear r2 r4 f2 HG3 HG4 HG5 HG6 HG7 hro
      have r3 := blk_cell HU3.out 3
      have r5 := blk_cell HU3.out 5
      have f3 := blk_frozen HU3.out 3
      go_upto_region 19 with (fail)
      obtain ⟨wb, hw⟩ : ∃ wb, wb = wa.setCell ⟨g3, 3, none⟩ (.slice Ai xi.length ci) := ⟨_, rfl⟩
      rw [← hw]
      have hne : ∀ k : Nat, k ≠ g3 → wb.heap[k]? = wa.heap[k]? := fun k hk => by rw [hw]; exact Below.heap_setCell _ _ _ _ (by exact hk)
      have HR3 := Aside0.mk (show wb.heap[g3]? = some (.cells #[.pointer (some ⟨pa, 0, none⟩), .slice Au x.und.length cu, .slice Ao xo.length co, .slice Ai xi.length ci, .int .i64 x.so, .int .i64 x.si, .int .i64 x.tld] 43 (0, 0)) by rw [hw]; exact blk_set HU3.out 3 (.slice Ai xi.length ci))
      have HR4 := Aside0.mk ((hne g4 (by have := HGE.out; omega)).trans HU4.out)
      have HR5 := Aside0.mk ((hne g5 (by have := HGE.out; omega)).trans HU5.out)
      have HR6 := Aside0.mk ((hne g6 (by have := HGE.out; omega)).trans HU6.out)
      have HR7 := Aside0.mk ((hne g7 (by have := HGE.out; omega)).trans HU7.out)
      have HRB := Aside0.mk (show Below w.heap.size w wb by rw [hw]; exact HUB.out.setCell (show w.heap.size ≤ g3 by have := HGE.out; omega) _)
      have HRS := Lib.hid (show wb.heap.size = wa.heap.size by rw [hw]; exact set_size _ _ _ _)
      have HRE := Lib.hid hne
      clear hw hne
      clear r3 r5 f3 HU3 HU4 HU5 HU6 HU7 hri
      have r6 := blk_cell HR3.out 6
      have f6 := blk_frozen HR3.out 6
      go_upto_region 20 with (fail)
      obtain ⟨w2, hw⟩ : ∃ w2, w2 = wb.setCell ⟨g3, 6, none⟩ (.int .i64 0) := ⟨_, rfl⟩
      rw [← hw]
      have hne : ∀ k : Nat, k ≠ g3 → w2.heap[k]? = wb.heap[k]? := fun k hk => by rw [hw]; exact Below.heap_setCell _ _ _ _ (by exact hk)
      have HV3 := Aside0.mk (show w2.heap[g3]? = some (.cells #[.pointer (some ⟨pa, 0, none⟩), .slice Au x.und.length cu, .slice Ao xo.length co, .slice Ai xi.length ci, .int .i64 x.so, .int .i64 x.si, .int .i64 0] 43 (0, 0)) by rw [hw]; exact blk_set HR3.out 6 (.int .i64 0))
      have HV4 := Aside0.mk ((hne g4 (by have := HGE.out; omega)).trans HR4.out)
      have HV5 := Aside0.mk ((hne g5 (by have := HGE.out; omega)).trans HR5.out)
      have HV6 := Aside0.mk ((hne g6 (by have := HGE.out; omega)).trans HR6.out)
      have HV7 := Aside0.mk ((hne g7 (by have := HGE.out; omega)).trans HR7.out)
      have HVB := Aside0.mk (show Below w.heap.size w w2 by rw [hw]; exact HRB.out.setCell (show w.heap.size ≤ g3 by have := HGE.out; omega) _)
      have HVS := Lib.hid (show w2.heap.size = wb.heap.size by rw [hw]; exact set_size _ _ _ _)
      have HVE := Lib.hid hne
      clear hw hne
      clear r6 f6 HR3 HR4 HR5 HR6 HR7
      refine wp_region_noPanic ?_
      refine wp_region_held_drew (S := fun V => V.heap[g3]? = some (.cells #[.pointer (some ⟨pa, 0, none⟩), .slice Au x.und.length cu, .slice Ao xo.length co, .slice Ai xi.length ci, .int .i64 x.so, .int .i64 x.si, .int .i64 0] 43 (0, 0)) ∧ V.heap[g4]? = some (.cells (sdC y pb Av cv Aq cq Aj cj) 43 (0, 0)) ∧ V.heap[g5]? = some (.cells (opC 6 who kk nn B p.length d) 59 (0, 0))) (by kernel_rfl) (⟨HV3.out, HV4.out, HV5.out⟩) (fun hHeld => ?_)
      obtain ⟨wd, hwd⟩ : ∃ wd, wd = w2.drew := ⟨_, rfl⟩
      rw [← hwd] at hHeld ⊢
      have HBD := Aside0.mk (show Below w2.heap.size w2 wd by rw [hwd]; exact (Below.refl _ _).drew)
      have HDE := Lib.hid (show ∀ k : Nat, wd.heap[k]? = w2.heap[k]? by rw [hwd]; exact fun _ => rfl)
      have HDS := Lib.hid (show wd.heap.size = w2.heap.size by rw [hwd]; rfl)
      clear hwd
      refine wpAnyH_take (i := 0) (v := ?_) rfl (by kernel_rfl) (by kernel_rfl) (by kernel_rfl) (fun _ _ _ h => h) (Or.inl ⟨by rfl, ?_⟩) (by assumption) ?_
      rotate_left 1
      · first | (intro w hSw; obtain ⟨⟨r0, r1, r2, r3, r4, r5, r6⟩, _⟩ := cells7 hSw.1; go_simp; done) | (intro w hSw; obtain ⟨⟨r0, r1, r2, r3, r4, r5, r6⟩, _⟩ := cells7 hSw.1; go_simp; with_reducible rfl)
      try simp only [Act.put, List.getElem_toArray, List.getElem_cons_zero, List.getElem_cons_succ, List.setIfInBounds_toArray, List.set_cons_zero, List.set_cons_succ]
      refine wpAnyH_take (i := 1) (v := ?_) rfl (by kernel_rfl) (by kernel_rfl) (by kernel_rfl) (fun _ _ _ h => h) (Or.inl ⟨by rfl, ?_⟩) (by assumption) ?_
      rotate_left 1
      · first | (intro w hSw; obtain ⟨⟨r0, r1, r2, r3, r4, r5, r6⟩, _⟩ := cells7 hSw.2.1; go_simp; done) | (intro w hSw; obtain ⟨⟨r0, r1, r2, r3, r4, r5, r6⟩, _⟩ := cells7 hSw.2.1; go_simp; with_reducible rfl)
      try simp only [Act.put, List.getElem_toArray, List.getElem_cons_zero, List.getElem_cons_succ, List.setIfInBounds_toArray, List.set_cons_zero, List.set_cons_succ]
      refine wpAnyH_take (i := 2) (v := ?_) rfl (by kernel_rfl) (by kernel_rfl) (by kernel_rfl) (fun _ _ _ h => h) (Or.inl ⟨by rfl, ?_⟩) (by assumption) ?_
      rotate_left 1
      · first | (intro w hSw; go_simp; done) | (intro w hSw; go_simp; with_reducible rfl)
      try simp only [Act.put, List.getElem_toArray, List.getElem_cons_zero, List.getElem_cons_succ, List.setIfInBounds_toArray, List.set_cons_zero, List.set_cons_succ]
      refine wpAnyH_take (i := 3) (v := ?_) rfl (by kernel_rfl) (by kernel_rfl) (by kernel_rfl) (fun _ _ _ h => h) (Or.inl ⟨by rfl, ?_⟩) (by assumption) ?_
      rotate_left 1
      · first | (intro w hSw; have r0 := blk_cell hSw.1 0; go_simp; done) | (intro w hSw; have r0 := blk_cell hSw.1 0; go_simp; with_reducible rfl)
      try simp only [Act.put, List.getElem_toArray, List.getElem_cons_zero, List.getElem_cons_succ, List.setIfInBounds_toArray, List.set_cons_zero, List.set_cons_succ]
      refine wpAnyH_ready (rs := [4]) (by kernel_rfl) (by simp) ?_
      refine AllReadyH.cons rfl (fun K hK => ?_) AllReadyH.nil
      go_simp
      have HBQ := Aside0.mk (show Below w.heap.size w wd from HVB.out.trans (HBD.out.mono HVB.out.size)); refine (linkCrash_calls wd lo Ka (enOf W x) pa (HI.out.fine (by have := HNN.out; omega)) (HT.out.a.stay HBQ.out)).mono ?_; rintro e wz ⟨rfl, hz, hm⟩; have HZZ := Aside0.mk hz; have HMZ := Aside0.mk hm; have HGN := Lib.hid (show ∀ k, w.heap.size ≤ k → ¬ Ka k from fun k hk h => by have := HKA.out k h; omega); have HKZ := Lib.hid (show ∀ k, k < w2.heap.size → ¬ Ka k → wz.heap[k]? = w2.heap[k]? from fun k hk hn => (hm.kept.2 k (by have := HDS.out; omega) hn).trans (HBD.out.block k hk)); have hKz := (⟨(HKZ.out g3 (blk_lt HV3.out) (HGN.out _ (by have := HGE.out; omega))).trans HV3.out, (HKZ.out g4 (blk_lt HV4.out) (HGN.out _ (by have := HGE.out; omega))).trans HV4.out, (HKZ.out g5 (blk_lt HV5.out) (HGN.out _ (by have := HGE.out; omega))).trans HV5.out⟩ : (wz.heap[g3]? = some (.cells #[.pointer (some ⟨pa, 0, none⟩), .slice Au x.und.length cu, .slice Ao xo.length co, .slice Ai xi.length ci, .int .i64 x.so, .int .i64 x.si, .int .i64 0] 43 (0, 0)) ∧ wz.heap[g4]? = some (.cells (sdC y pb Av cv Aq cq Aj cj) 43 (0, 0)) ∧ wz.heap[g5]? = some (.cells (opC 6 who kk nn B p.length d) 59 (0, 0)))); clear hz hm
      go_simp
      refine hK.out _ _ hKz (fun hHeld => ?_)
      clear hK K
      try simp only [Act.put, List.getElem_toArray, List.getElem_cons_zero, List.getElem_cons_succ, List.setIfInBounds_toArray, List.set_cons_zero, List.set_cons_succ]
      refine wpAnyH_take (i := 5) (v := ?_) rfl (by kernel_rfl) (by kernel_rfl) (by kernel_rfl) (fun _ _ _ h => h) (Or.inl ⟨by rfl, ?_⟩) (by assumption) ?_
      rotate_left 1
      · first | (intro w hSw; go_simp; done) | (intro w hSw; go_simp; with_reducible rfl)
      try simp only [Act.put, List.getElem_toArray, List.getElem_cons_zero, List.getElem_cons_succ, List.setIfInBounds_toArray, List.set_cons_zero, List.set_cons_succ]
      refine wpAnyH_take (i := 6) (v := ?_) rfl (by kernel_rfl) (by kernel_rfl) (by kernel_rfl) (fun _ _ _ h => h) (Or.inl ⟨by rfl, ?_⟩) (by assumption) ?_
      rotate_left 1
      · first | (intro w hSw; go_simp; done) | (intro w hSw; go_simp; with_reducible rfl)
      try simp only [Act.put, List.getElem_toArray, List.getElem_cons_zero, List.getElem_cons_succ, List.setIfInBounds_toArray, List.set_cons_zero, List.set_cons_succ]
      refine wpAnyH_take (i := 7) (v := ?_) rfl (by kernel_rfl) (by kernel_rfl) (by kernel_rfl) (fun _ _ _ h => h) (Or.inl ⟨by rfl, ?_⟩) (by assumption) ?_
      rotate_left 1
      · first | (intro w hSw; go_simp; done) | (intro w hSw; go_simp; with_reducible rfl)
      try simp only [Act.put, List.getElem_toArray, List.getElem_cons_zero, List.getElem_cons_succ, List.setIfInBounds_toArray, List.set_cons_zero, List.set_cons_succ]
      refine wpAnyH_take (i := 8) (v := ?_) rfl (by kernel_rfl) (by kernel_rfl) (by kernel_rfl) (fun _ _ _ h => h) (Or.inl ⟨by rfl, ?_⟩) (by assumption) ?_
      rotate_left 1
      · first | (intro w hSw; have r0 := blk_cell hSw.1 0; go_simp; done) | (intro w hSw; have r0 := blk_cell hSw.1 0; go_simp; with_reducible rfl)
      try simp only [Act.put, List.getElem_toArray, List.getElem_cons_zero, List.getElem_cons_succ, List.setIfInBounds_toArray, List.set_cons_zero, List.set_cons_succ]
      refine wpAnyH_take (i := 10) (v := ?_) rfl (by kernel_rfl) (by kernel_rfl) (by kernel_rfl) (fun _ _ _ h => h) (Or.inl ⟨by rfl, ?_⟩) (by assumption) ?_
      rotate_left 1
      · first | (intro w hSw; go_simp; done) | (intro w hSw; go_simp; with_reducible rfl)
      try simp only [Act.put, List.getElem_toArray, List.getElem_cons_zero, List.getElem_cons_succ, List.setIfInBounds_toArray, List.set_cons_zero, List.set_cons_succ]
      refine wpAnyH_take (i := 11) (v := ?_) rfl (by kernel_rfl) (by kernel_rfl) (by kernel_rfl) (fun _ _ _ h => h) (Or.inl ⟨by rfl, ?_⟩) (by assumption) ?_
      rotate_left 1
      · first | (intro w hSw; have r0 := blk_cell hSw.1 4; go_simp; done) | (intro w hSw; have r0 := blk_cell hSw.1 4; go_simp; with_reducible rfl)
      try simp only [Act.put, List.getElem_toArray, List.getElem_cons_zero, List.getElem_cons_succ, List.setIfInBounds_toArray, List.set_cons_zero, List.set_cons_succ]
      refine wpAnyH_ready (rs := [9]) (by kernel_rfl) (by simp) ?_
      refine AllReadyH.cons rfl (fun K hK => ?_) AllReadyH.nil
      go_simp
      have hop : ((enOf W x).crash.so : Int) - (enOf W x).crash.tld = x.so := (show (x.so : Int) - ((0 : Nat) : Int) = x.so by omega); refine (linkOpen_calls wz lo Ka (enOf W x).crash pa (HI.out.fine (by have := HNN.out; omega)).crash HZZ.out).mono ?_; rw [hop]; rintro e w4 ⟨rfl, hd⟩; have hE4 := (show ∀ k : Nat, w4.heap[k]? = wz.heap[k]? by obtain ⟨⟨m, rfl⟩⟩ := hd; exact fun _ => rfl); have hS4 := (show w4.heap.size = wz.heap.size by obtain ⟨⟨m, rfl⟩⟩ := hd; rfl); have HZ4 := Aside0.mk (show IsEnd w4 lo Ka (enOf W x).crash pa by obtain ⟨⟨m, rfl⟩⟩ := hd; exact HZZ.out.stay (pw_below_drewN (Below.refl _ _) _)); have HM4 := Aside0.mk (show Moved wd w4 lo Ka Ka by obtain ⟨⟨m, rfl⟩⟩ := hd; exact HMZ.out.trans (Moved.drewN _ _ _ _)); have HKP := Lib.hid (show ∀ k, k < w2.heap.size → ¬ Ka k → w4.heap[k]? = w2.heap[k]? from fun k hk hn => (hE4 k).trans (HKZ.out k hk hn)); have HZ6 := Aside0.mk ((HKP.out g6 (blk_lt HV6.out) (HGN.out _ (by have := HGE.out; omega))).trans HV6.out); have HZ7 := Aside0.mk ((HKP.out g7 (blk_lt HV7.out) (HGN.out _ (by have := HGE.out; omega))).trans HV7.out); have HW4 := Lib.hid (show w.heap.size ≤ w4.heap.size by have := HBQ.out.size; have := HMZ.out.below.size; omega); have hK4 := (⟨(hE4 g3).trans hHeld.1, (hE4 g4).trans hHeld.2.1, (hE4 g5).trans hHeld.2.2⟩ : (w4.heap[g3]? = some (.cells #[.pointer (some ⟨pa, 0, none⟩), .slice Au x.und.length cu, .slice Ao xo.length co, .slice Ai xi.length ci, .int .i64 x.so, .int .i64 x.si, .int .i64 0] 43 (0, 0)) ∧ w4.heap[g4]? = some (.cells (sdC y pb Av cv Aq cq Aj cj) 43 (0, 0)) ∧ w4.heap[g5]? = some (.cells (opC 6 who kk nn B p.length d) 59 (0, 0)))); clear hd hop hE4 hS4 HZZ HMZ HKZ
      go_simp
      refine hK.out _ _ hK4 (fun hHeld => ?_)
      clear hK K
      try simp only [Act.put, List.getElem_toArray, List.getElem_cons_zero, List.getElem_cons_succ, List.setIfInBounds_toArray, List.set_cons_zero, List.set_cons_succ]
      refine wpAnyH_take (i := 12) (v := ?_) rfl (by kernel_rfl) (by kernel_rfl) (by kernel_rfl) (fun _ _ _ h => h) (Or.inl ⟨by rfl, ?_⟩) (by assumption) ?_
      rotate_left 1
      · first | (intro w hSw; go_simp; done) | (intro w hSw; go_simp; with_reducible rfl)
      try simp only [Act.put, List.getElem_toArray, List.getElem_cons_zero, List.getElem_cons_succ, List.setIfInBounds_toArray, List.set_cons_zero, List.set_cons_succ]
      refine wpAnyH_take (i := 13) (v := ?_) rfl (by kernel_rfl) (by kernel_rfl) (by kernel_rfl) (fun _ _ _ h => h) (Or.inl ⟨by rfl, ?_⟩) (by assumption) ?_
      rotate_left 1
      · first | (intro w hSw; go_simp; done) | (intro w hSw; go_simp; with_reducible rfl)
      try simp only [Act.put, List.getElem_toArray, List.getElem_cons_zero, List.getElem_cons_succ, List.setIfInBounds_toArray, List.set_cons_zero, List.set_cons_succ]
      refine wpAnyH_ready (rs := [14]) (by kernel_rfl) (by simp) ?_
      refine AllReadyH.cons rfl (fun K hK => ?_) AllReadyH.nil
      have HSS := Lib.hid hHeld; obtain ⟨⟨r0, r1, r2, r3, r4, r5, r6⟩, s0, s1, s2, s3, s4, s5, s6⟩ := cells7 (show w4.heap[g6]? = some (.cells #[.pointer none, .slice none 0 0, .slice none 0 0, .slice none 0 0, .int .i64 0, .int .i64 0, .int .i64 0] 43 (0, 0)) from HZ6.out); go_simp
      refine hK.out _ _ (by rw [put7_fold]; exact ⟨(put7_ne _ (by have := HGE.out; omega) _ _ _ _ _ _ _).trans hHeld.1, (put7_ne _ (by have := HGE.out; omega) _ _ _ _ _ _ _).trans hHeld.2.1, (put7_ne _ (by have := HGE.out; omega) _ _ _ _ _ _ _).trans hHeld.2.2⟩) (fun hHeld => ?_)
      clear hK K
      try simp only [Act.put, List.getElem_toArray, List.getElem_cons_zero, List.getElem_cons_succ, List.setIfInBounds_toArray, List.set_cons_zero, List.set_cons_succ]
      generalize hw5 : (((((((w4.setCell ⟨g6, 0, none⟩ (.pointer (some ⟨pa, 0, none⟩))).setCell ⟨g6, 1, none⟩ (.slice Au x.und.length cu)).setCell ⟨g6, 2, none⟩ (.slice Ao xo.length co)).setCell ⟨g6, 3, none⟩ (.slice Ai xi.length ci)).setCell ⟨g6, 4, none⟩ (.int .i64 x.so)).setCell ⟨g6, 5, none⟩ (.int .i64 x.si)).setCell ⟨g6, 6, none⟩ (.int .i64 0)) = w5 at hHeld ⊢
      have HW5 := Lib.hid (show w5 = put7 w4 g6 (.pointer (some ⟨pa, 0, none⟩)) (.slice Au x.und.length cu) (.slice Ao xo.length co) (.slice Ai xi.length ci) (.int .i64 x.so) (.int .i64 x.si) (.int .i64 0) from hw5.symm)
      have HZ7' := Aside0.mk (show w5.heap[g7]? = some (.cells #[.pointer none, .slice none 0 0, .slice none 0 0, .slice none 0 0, .int .i64 0, .int .i64 0, .int .i64 0] 43 (0, 0)) by rw [HW5.out]; exact (put7_ne _ (by have := HGE.out; omega) _ _ _ _ _ _ _).trans HZ7.out)
      clear hw5
      refine wpAnyH_ready (rs := [15]) (by kernel_rfl) (by simp) ?_
      refine AllReadyH.cons rfl (fun K hK => ?_) AllReadyH.nil
      obtain ⟨⟨r0, r1, r2, r3, r4, r5, r6⟩, s0, s1, s2, s3, s4, s5, s6⟩ := cells7 HZ7'.out; go_simp
      refine hK.out _ _ (by rw [put7_fold]; exact ⟨(put7_ne _ (by have := HGE.out; omega) _ _ _ _ _ _ _).trans hHeld.1, (put7_ne _ (by have := HGE.out; omega) _ _ _ _ _ _ _).trans hHeld.2.1, (put7_ne _ (by have := HGE.out; omega) _ _ _ _ _ _ _).trans hHeld.2.2⟩) (fun hHeld => ?_)
      clear hK K
      try simp only [Act.put, List.getElem_toArray, List.getElem_cons_zero, List.getElem_cons_succ, List.setIfInBounds_toArray, List.set_cons_zero, List.set_cons_succ]
      refine wpAnyH_take (i := 16) (v := ?_) rfl (by kernel_rfl) (by kernel_rfl) (by kernel_rfl) (fun _ _ _ h => h) (Or.inl ⟨by rfl, ?_⟩) (by assumption) ?_
      rotate_left 1
      · first | (intro w hSw; go_simp; done) | (intro w hSw; go_simp; with_reducible rfl)
      try simp only [Act.put, List.getElem_toArray, List.getElem_cons_zero, List.getElem_cons_succ, List.setIfInBounds_toArray, List.set_cons_zero, List.set_cons_succ]
      refine wpAnyH_done (by kernel_rfl) ?_ _
      refine NoPanic.normal ?_
      rw [put7_fold]
      obtain ⟨w9, hw9⟩ : ∃ w9, w9 = put7 w5 g7 (.pointer (some ⟨pb, 0, none⟩)) (.slice Av y.und.length cv) (.slice Aq y.out.length cq) (.slice Aj y.inn.length cj) (.int .i64 y.so) (.int .i64 y.si) (.int .i64 y.tld) := ⟨_, rfl⟩
      rw [← hw9]
      have hp9 : PutTwo w w4 w9 g6 g7 := by rw [hw9, HW5.out]; exact put_two (by have := HGE.out; omega) (by have := HGE.out; omega) HW4.out _ _ _ _ _ _ _ _ _ _ _ _ _ _
      have hc6 : w9.heap[g6]? = some (.cells #[.pointer (some ⟨pa, 0, none⟩), .slice Au x.und.length cu, .slice Ao xo.length co, .slice Ai xi.length ci, .int .i64 x.so, .int .i64 x.si, .int .i64 0] 43 (0, 0)) := by rw [hw9, HW5.out]; exact (put7_ne _ (by have := HGE.out; omega) _ _ _ _ _ _ _).trans (put7_at (show w4.heap[g6]? = some (.cells #[.pointer none, .slice none 0 0, .slice none 0 0, .slice none 0 0, .int .i64 0, .int .i64 0, .int .i64 0] 43 (0, 0)) from HZ6.out) _ _ _ _ _ _ _)
      have hc7 : w9.heap[g7]? = some (.cells #[.pointer (some ⟨pb, 0, none⟩), .slice Av y.und.length cv, .slice Aq y.out.length cq, .slice Aj y.inn.length cj, .int .i64 y.so, .int .i64 y.si, .int .i64 y.tld] 43 (0, 0)) := by rw [hw9]; exact put7_at HZ7'.out _ _ _ _ _ _ _
      have HP9 := Aside0.mk hp9
      obtain ⟨⟨r0, r1, r2, r3, r4, r5, r6⟩, _⟩ := cells7 hc6
      obtain ⟨⟨q0, q1, q2, q3, q4, q5, q6⟩, _⟩ := cells7 hc7
      clear hw9 HW5 hp9 hc6 hc7 hHeld
      go_wp2
      (try simp only [Exit.inBlock, Exit.then])
      refine bodyPost_ret (v := .tuple #[.agg #[.pointer (some ⟨pa, 0, none⟩), .slice Au x.und.length cu, .slice Ao xo.length co, .slice Ai xi.length ci, .int .i64 x.so, .int .i64 x.si, .int .i64 0], .agg #[.pointer (some ⟨pb, 0, none⟩), .slice Av y.und.length cv, .slice Aq y.out.length cq, .slice Aj y.inn.length cj, .int .i64 y.so, .int .i64 y.si, .int .i64 y.tld], .bool true]) (by simp [results, Try.results24, go_sem, r0, r1, r2, r3, r4, r5, r6, q0, q1, q2, q3, q4, q5, q6]) rfl ?_
      have hsz := HSZ.out
      have hge := HGE.out
      have hkw : ∀ k, k < w.heap.size → ¬ Ka k → w4.heap[k]? = w.heap[k]? := fun k hk hn => (HKP.out k (Nat.lt_of_lt_of_le hk HVB.out.size) hn).trans (HVB.out.block k hk)
      have hM : Moved w w4 lo Ka Ka := Moved.trans (K1 := Ka) ⟨HBQ.out.mono HLO.out, ⟨HBQ.out.size, fun k hk _ => HBQ.out.block k hk⟩, fun k hk => .inl hk⟩ HM4.out
      have hx4 := HX.out.step (w1 := w4) (fun k hk hlt => hkw k hlt (HFF.out k hk.1).1)
      have hy4 := HY.out.step (w1 := w4) (fun k hk hlt => hkw k hlt (HFF.out k hk.1).1)
      have hb4 := HT.out.b.move (fun k hk => hkw k (HKB.out k hk) (fun h => HT.out.ap k h hk)) HW4.out
      obtain rfl := HXO.out
      obtain rfl := HXI.out
      exact step_end (x := x.crash) (y := y) (Ka' := Ka) (HI.out.crash.more (Nat.le_succ _)) HP9.out (by omega) (by omega) (by
        have e : (x.inn.take x.si).length = x.si := List.length_take_of_le HI.out.a.si1
        have e2 : enOf W x.crash = (enOf W x).crash := by simp only [enOf, Sd.crash, En.crash, e]
        rw [e2]; exact HZ4.out) hb4 hM ⟨hx4.cu, Kd.F_mono hx4.fu (fun k hk => .inl hk), HCO.out, Kd.F_mono (Kd.F_step HFO.out (fun k hk hlt => hkw k hlt (HFF.out k hk.1).1)) (fun k hk => .inl hk), HCI.out, Kd.F_mono (Kd.F_step HFI.out (fun k hk hlt => hkw k hlt (HFF.out k hk.1).1)) (fun k hk => .inl hk)⟩ (hy4.mono (fun k hk _ => .inl hk)) (HGN.out g6 (by omega)) (HGN.out g7 (by omega)) HT.out.ap HFF.out HKB.out HLO.out
    have e6 : (kind == 6) = false := beq_eq_false_iff_ne.2 hk6
    have ulb : (x.und.length : Int) ≤ 500 := by have := HUL.out; omega
    go_upto_region 21 with (fail)
    by_cases hu : x.und.length = 0
    · -- NOTHING UNDER WAY
      have hui : (x.und.length : Int) = 0 := by omega
      have hub : ((x.und.length : Int) == 0) = true := beq_iff_eq.2 hui
      have hud : decide (x.und.length = 0) = true := decide_eq_true hu
      go_upto_region 22 with (fail)
      clear hui hub hud hu
      refine wp_region_noPanic ?_
      refine wp_region_held_drew (S := fun V => V.heap[g3]? = some (.cells (sdC x pa Au cu Ao co Ai ci) 43 (0, 0)) ∧ V.heap[g4]? = some (.cells (sdC y pb Av cv Aq cq Aj cj) 43 (0, 0)) ∧ V.heap[g5]? = some (.cells (opC kind who kk nn B p.length d) 59 (0, 0))) (by kernel_rfl) (⟨HG3.out, HG4.out, HG5.out⟩) (fun hHeld => ?_)
      obtain ⟨wd, hwd⟩ : ∃ wd, wd = wc.drew := ⟨_, rfl⟩
      rw [← hwd] at hHeld ⊢
      have HBD := Aside0.mk (show Below wc.heap.size wc wd by rw [hwd]; exact (Below.refl _ _).drew)
      have HDE := Lib.hid (show ∀ k : Nat, wd.heap[k]? = wc.heap[k]? by rw [hwd]; exact fun _ => rfl)
      have HDS := Lib.hid (show wd.heap.size = wc.heap.size by rw [hwd]; rfl)
      clear hwd
      have HZ6 := Aside0.mk ((HDE.out g6).trans HG6.out)
      have HZ7 := Aside0.mk ((HDE.out g7).trans HG7.out)
      have HW4 := Lib.hid (show w.heap.size ≤ wd.heap.size by have := HBW.out.size; have := HDS.out; omega)
      have HBQ := Aside0.mk (show Below w.heap.size w wd from HBW.out.trans (HBD.out.mono HBW.out.size))
      refine wpAnyH_take (i := 0) (v := ?_) rfl (by kernel_rfl) (by kernel_rfl) (by kernel_rfl) (fun _ _ _ h => h) (Or.inl ⟨by rfl, ?_⟩) (by assumption) ?_
      rotate_left 1
      · first | (intro w hSw; obtain ⟨⟨r0, r1, r2, r3, r4, r5, r6⟩, _⟩ := cells7 hSw.1; go_simp; done) | (intro w hSw; obtain ⟨⟨r0, r1, r2, r3, r4, r5, r6⟩, _⟩ := cells7 hSw.1; go_simp; with_reducible rfl)
      try simp only [Act.put, List.getElem_toArray, List.getElem_cons_zero, List.getElem_cons_succ, List.setIfInBounds_toArray, List.set_cons_zero, List.set_cons_succ]
      refine wpAnyH_take (i := 1) (v := ?_) rfl (by kernel_rfl) (by kernel_rfl) (by kernel_rfl) (fun _ _ _ h => h) (Or.inl ⟨by rfl, ?_⟩) (by assumption) ?_
      rotate_left 1
      · first | (intro w hSw; obtain ⟨⟨r0, r1, r2, r3, r4, r5, r6⟩, _⟩ := cells7 hSw.2.1; go_simp; done) | (intro w hSw; obtain ⟨⟨r0, r1, r2, r3, r4, r5, r6⟩, _⟩ := cells7 hSw.2.1; go_simp; with_reducible rfl)
      try simp only [Act.put, List.getElem_toArray, List.getElem_cons_zero, List.getElem_cons_succ, List.setIfInBounds_toArray, List.set_cons_zero, List.set_cons_succ]
      refine wpAnyH_ready (rs := [2]) (by kernel_rfl) (by simp) ?_
      refine AllReadyH.cons rfl (fun K hK => ?_) AllReadyH.nil
      have HSS := Lib.hid hHeld; obtain ⟨⟨r0, r1, r2, r3, r4, r5, r6⟩, s0, s1, s2, s3, s4, s5, s6⟩ := cells7 (show wd.heap[g6]? = some (.cells #[.pointer none, .slice none 0 0, .slice none 0 0, .slice none 0 0, .int .i64 0, .int .i64 0, .int .i64 0] 43 (0, 0)) from HZ6.out); go_simp
      refine hK.out _ _ (by rw [put7_fold]; exact ⟨(put7_ne _ (by have := HGE.out; omega) _ _ _ _ _ _ _).trans hHeld.1, (put7_ne _ (by have := HGE.out; omega) _ _ _ _ _ _ _).trans hHeld.2.1, (put7_ne _ (by have := HGE.out; omega) _ _ _ _ _ _ _).trans hHeld.2.2⟩) (fun hHeld => ?_)
      clear hK K
      try simp only [Act.put, List.getElem_toArray, List.getElem_cons_zero, List.getElem_cons_succ, List.setIfInBounds_toArray, List.set_cons_zero, List.set_cons_succ]
      generalize hw5 : (((((((wd.setCell ⟨g6, 0, none⟩ (.pointer (some ⟨pa, 0, none⟩))).setCell ⟨g6, 1, none⟩ (.slice Au x.und.length cu)).setCell ⟨g6, 2, none⟩ (.slice Ao x.out.length co)).setCell ⟨g6, 3, none⟩ (.slice Ai x.inn.length ci)).setCell ⟨g6, 4, none⟩ (.int .i64 x.so)).setCell ⟨g6, 5, none⟩ (.int .i64 x.si)).setCell ⟨g6, 6, none⟩ (.int .i64 x.tld)) = w5 at hHeld ⊢
      have HW5 := Lib.hid (show w5 = put7 wd g6 (.pointer (some ⟨pa, 0, none⟩)) (.slice Au x.und.length cu) (.slice Ao x.out.length co) (.slice Ai x.inn.length ci) (.int .i64 x.so) (.int .i64 x.si) (.int .i64 x.tld) from hw5.symm)
      have HZ7' := Aside0.mk (show w5.heap[g7]? = some (.cells #[.pointer none, .slice none 0 0, .slice none 0 0, .slice none 0 0, .int .i64 0, .int .i64 0, .int .i64 0] 43 (0, 0)) by rw [HW5.out]; exact (put7_ne _ (by have := HGE.out; omega) _ _ _ _ _ _ _).trans HZ7.out)
      clear hw5
      refine wpAnyH_ready (rs := [3]) (by kernel_rfl) (by simp) ?_
      refine AllReadyH.cons rfl (fun K hK => ?_) AllReadyH.nil
      obtain ⟨⟨r0, r1, r2, r3, r4, r5, r6⟩, s0, s1, s2, s3, s4, s5, s6⟩ := cells7 HZ7'.out; go_simp
      refine hK.out _ _ (by rw [put7_fold]; exact ⟨(put7_ne _ (by have := HGE.out; omega) _ _ _ _ _ _ _).trans hHeld.1, (put7_ne _ (by have := HGE.out; omega) _ _ _ _ _ _ _).trans hHeld.2.1, (put7_ne _ (by have := HGE.out; omega) _ _ _ _ _ _ _).trans hHeld.2.2⟩) (fun hHeld => ?_)
      clear hK K
      try simp only [Act.put, List.getElem_toArray, List.getElem_cons_zero, List.getElem_cons_succ, List.setIfInBounds_toArray, List.set_cons_zero, List.set_cons_succ]
      refine wpAnyH_take (i := 4) (v := ?_) rfl (by kernel_rfl) (by kernel_rfl) (by kernel_rfl) (fun _ _ _ h => h) (Or.inl ⟨by rfl, ?_⟩) (by assumption) ?_
      rotate_left 1
      · first | (intro w hSw; go_simp; done) | (intro w hSw; go_simp; with_reducible rfl)
      try simp only [Act.put, List.getElem_toArray, List.getElem_cons_zero, List.getElem_cons_succ, List.setIfInBounds_toArray, List.set_cons_zero, List.set_cons_succ]
      refine wpAnyH_done (by kernel_rfl) ?_ _
      refine NoPanic.normal ?_
      rw [put7_fold]
      obtain ⟨w9, hw9⟩ : ∃ w9, w9 = put7 w5 g7 (.pointer (some ⟨pb, 0, none⟩)) (.slice Av y.und.length cv) (.slice Aq y.out.length cq) (.slice Aj y.inn.length cj) (.int .i64 y.so) (.int .i64 y.si) (.int .i64 y.tld) := ⟨_, rfl⟩
      rw [← hw9]
      have hp9 : PutTwo w wd w9 g6 g7 := by rw [hw9, HW5.out]; exact put_two (by have := HGE.out; omega) (by have := HGE.out; omega) HW4.out _ _ _ _ _ _ _ _ _ _ _ _ _ _
      have hc6 : w9.heap[g6]? = some (.cells #[.pointer (some ⟨pa, 0, none⟩), .slice Au x.und.length cu, .slice Ao x.out.length co, .slice Ai x.inn.length ci, .int .i64 x.so, .int .i64 x.si, .int .i64 x.tld] 43 (0, 0)) := by rw [hw9, HW5.out]; exact (put7_ne _ (by have := HGE.out; omega) _ _ _ _ _ _ _).trans (put7_at (show wd.heap[g6]? = some (.cells #[.pointer none, .slice none 0 0, .slice none 0 0, .slice none 0 0, .int .i64 0, .int .i64 0, .int .i64 0] 43 (0, 0)) from HZ6.out) _ _ _ _ _ _ _)
      have hc7 : w9.heap[g7]? = some (.cells #[.pointer (some ⟨pb, 0, none⟩), .slice Av y.und.length cv, .slice Aq y.out.length cq, .slice Aj y.inn.length cj, .int .i64 y.so, .int .i64 y.si, .int .i64 y.tld] 43 (0, 0)) := by rw [hw9]; exact put7_at HZ7'.out _ _ _ _ _ _ _
      have HP9 := Aside0.mk hp9
      obtain ⟨⟨r0, r1, r2, r3, r4, r5, r6⟩, _⟩ := cells7 hc6
      obtain ⟨⟨q0, q1, q2, q3, q4, q5, q6⟩, _⟩ := cells7 hc7
      clear hw9 HW5 hp9 hc6 hc7 hHeld
      go_wp2
      (try simp only [Exit.inBlock, Exit.then])
      refine bodyPost_ret (v := .tuple #[.agg #[.pointer (some ⟨pa, 0, none⟩), .slice Au x.und.length cu, .slice Ao x.out.length co, .slice Ai x.inn.length ci, .int .i64 x.so, .int .i64 x.si, .int .i64 x.tld], .agg #[.pointer (some ⟨pb, 0, none⟩), .slice Av y.und.length cv, .slice Aq y.out.length cq, .slice Aj y.inn.length cj, .int .i64 y.so, .int .i64 y.si, .int .i64 y.tld], .bool true]) (by simp [results, Try.results24, go_sem, r0, r1, r2, r3, r4, r5, r6, q0, q1, q2, q3, q4, q5, q6]) rfl ?_
      have hge := HGE.out
      have hgn : ∀ k, w.heap.size ≤ k → ¬ Ka k := fun k hk h => by have := HKA.out k h; omega
      have hM : Moved w wd lo Ka Ka := ⟨HBQ.out.mono HLO.out, ⟨HBQ.out.size, fun k hk _ => HBQ.out.block k hk⟩, fun k hk => .inl hk⟩
      have hx4 := HX.out.step (w1 := wd) (fun k hk hlt => HBQ.out.block k hlt)
      have hy4 := HY.out.step (w1 := wd) (fun k hk hlt => HBQ.out.block k hlt)
      exact step_end (x := x) (y := y) (Ka' := Ka) (HI.out.more (Nat.le_succ _)) HP9.out (by omega) (by omega) (HT.out.a.stay HBQ.out) (HT.out.b.stay HBQ.out) hM (hx4.mono (fun k hk _ => .inl hk)) (hy4.mono (fun k hk _ => .inl hk)) (hgn g6 (by omega)) (hgn g7 (by omega)) HT.out.ap HFF.out HKB.out HLO.out
    have hui : ¬ (x.und.length : Int) = 0 := by omega
    have hub : ((x.und.length : Int) == 0) = false := beq_eq_false_iff_ne.2 hui
    go_upto_region 23 with (fail)
    by_cases hk2 : kind = 2
    · -- A PACKET COMES
      subst hk2
      obtain ⟨ad, B1, d1, rfl, h1, h2, hd1, hF1, hok⟩ := PF_cell (Kd.F_step HX.out.fu (fun k hk _ => HBW.out.block k hk.2)) (HIX.out (by omega))
      obtain ⟨a, b, ms, u⟩ := HI.out.a.und _ (gq_mem (HIX.out (by omega)))
      have hq2 : (gq x.und idx).2 = (a : Int) := by rw [u.eq]
      have hq1 : (gq x.und idx).1 = putAll (uintsF a ++ uintsF b) ms := by rw [u.eq]
      rw [hq2] at h2
      obtain ⟨q, hq⟩ : ∃ q, q = (gq x.und idx).1 := ⟨_, rfl⟩
      rw [← hq] at h1 hd1 hF1 hq1
      have HUN := Lib.hid u
      have HU := Lib.hid (show q = putAll (uintsF a ++ uintsF b) ms ∧ a ≤ x.so ∧ b ≤ 100000 ∧ (∀ m ∈ ms, m.length ≤ 1000) ∧ ms.length ≤ 100 ∧ (x.recv a b nn ms).inn = y.out.take (x.recv a b nn ms).inn.length ∧ (x.recv a b nn ms).inn.length ≤ y.so ∧ y.so ≤ y.out.length ∧ y.out.length ≤ 90000 by
        have hbr := HI.out.a.brings HI.out.b.so1 u nn
        have t1 := u.ga
        have t2 := HI.out.b.si1
        have t3 := HI.out.b.len
        have t4 := u.gb
        have t5 := HI.out.b.so1
        have t6 := HI.out.nb
        have t7 := HNN.out
        have t8 := u.gl
        refine ⟨hq1, by omega, by omega, fun m hm => ?_, by omega, hbr.1, hbr.2, t5, by omega⟩
        rw [u.gm] at hm
        have := HI.out.b.short m (List.mem_of_mem_take (List.mem_of_mem_drop hm))
        omega)
      have HF1 := Aside0.mk hF1
      have HDD1 := Lib.hid hd1
      have hidx : (idx : Int) < x.und.length := by have := HIX.out (by omega); omega
      have hid0 : (0 : Int) ≤ idx := by omega
      clear hF1 hd1 u hq2 hq1 hq
      go_upto_region 25 with (fail)
      obtain ⟨wA, hwA⟩ : ∃ wA, wA = wc.alloc (.cells #[.slice B1 q.length d1, .int .i64 a] 65) := ⟨_, rfl⟩
      rw [← hwA]
      obtain ⟨g12, e12⟩ : ∃ g12, g12 = wc.heap.size := ⟨_, rfl⟩
      rw [← e12]
      have hA : ∀ k : Nat, k < wc.heap.size → wA.heap[k]? = wc.heap[k]? := fun k hk => by rw [hwA]; exact heap_alloc_old _ _ hk
      have HA12 := Aside0.mk (show wA.heap[g12]? = some (.cells #[.slice B1 q.length d1, .int .i64 a] 65 (0, 0)) by rw [hwA, e12]; exact heap_alloc_new _ _)
      have HAS := Lib.hid (show wA.heap.size = wc.heap.size + 1 by rw [hwA]; exact Array.size_push _)
      have HAB := Aside0.mk (show Below w.heap.size w wA by rw [hwA]; exact below_alloc HBW.out _)
      have HA3 := Aside0.mk ((hA g3 (blk_lt HG3.out)).trans HG3.out)
      have HA4 := Aside0.mk ((hA g4 (blk_lt HG4.out)).trans HG4.out)
      have HA5 := Aside0.mk ((hA g5 (blk_lt HG5.out)).trans HG5.out)
      have HA6 := Aside0.mk ((hA g6 (blk_lt HG6.out)).trans HG6.out)
      have HA7 := Aside0.mk ((hA g7 (blk_lt HG7.out)).trans HG7.out)
      have H12 := Lib.hid (show g12 = w.heap.size + 1 + 1 + 1 + 1 + 1 by have := HSZ.out; omega)
      have HSO := Lib.hid (show w.heap.size + 1 + 1 + 1 + 1 + 1 + 1 = wA.heap.size by have := HSZ.out; have := HAS.out; omega)
      have r1 := blk_cell HA3.out 1
      clear hA hwA e12 h1 h2 hidx hid0 HG3 HG4 HG5 HG6 HG7 k0 c1
      go_upto_region 26 with (go_at_call 36; refine (take_calls wA (fun k => F k ∧ k < w.heap.size) (some ad) cu idx x.und (Kd.F_step HX.out.fu (fun k hk _ => HAB.out.block k hk.2)) HX.out.cu (HIX.out (by omega)) (by have := HUL.out; omega)).mono ?_; rintro e w1 ⟨v1, rfl, hn1, hb1⟩; obtain ⟨xu, hxu⟩ : ∃ xu, xu = x.und.take idx ++ x.und.drop (idx + 1) := ⟨_, rfl⟩; rw [← hxu] at hn1; obtain ⟨A1, c1', rfl⟩ := Kd.N_slice hn1; have HXU := Lib.hid hxu; have HN1 := Aside0.mk hn1; have HB1 := Aside0.mk hb1; have HQ3 := Aside0.mk ((hb1.block _ (blk_lt HA3.out)).trans HA3.out); have HQ4 := Aside0.mk ((hb1.block _ (blk_lt HA4.out)).trans HA4.out); have HQ5 := Aside0.mk ((hb1.block _ (blk_lt HA5.out)).trans HA5.out); have HQ6 := Aside0.mk ((hb1.block _ (blk_lt HA6.out)).trans HA6.out); have HQ7 := Aside0.mk ((hb1.block _ (blk_lt HA7.out)).trans HA7.out); have HQB := Aside0.mk (HAB.out.trans (hb1.mono HAB.out.size)); have q1 := blk_cell HQ3.out 1; have f1 := blk_frozen HQ3.out 1; have HQ12 := Aside0.mk ((hb1.block _ (blk_lt HA12.out)).trans HA12.out); clear hn1 hb1 hxu)
      obtain ⟨w2, hw⟩ : ∃ w2, w2 = w1.setCell ⟨g3, 1, none⟩ (.slice A1 xu.length c1') := ⟨_, rfl⟩
      rw [← hw]
      have hne : ∀ k : Nat, k ≠ g3 → w2.heap[k]? = w1.heap[k]? := fun k hk => by rw [hw]; exact Below.heap_setCell _ _ _ _ (by exact hk)
      have HV3 := Aside0.mk (show w2.heap[g3]? = some (.cells #[.pointer (some ⟨pa, 0, none⟩), .slice A1 xu.length c1', .slice Ao x.out.length co, .slice Ai x.inn.length ci, .int .i64 x.so, .int .i64 x.si, .int .i64 x.tld] 43 (0, 0)) by rw [hw]; exact blk_set HQ3.out 1 (.slice A1 xu.length c1'))
      have HV4 := Aside0.mk ((hne g4 (by have := HGE.out; omega)).trans HQ4.out)
      have HV5 := Aside0.mk ((hne g5 (by have := HGE.out; omega)).trans HQ5.out)
      have HV6 := Aside0.mk ((hne g6 (by have := HGE.out; omega)).trans HQ6.out)
      have HV7 := Aside0.mk ((hne g7 (by have := HGE.out; omega)).trans HQ7.out)
      have HVB := Aside0.mk (show Below w.heap.size w w2 by rw [hw]; exact HQB.out.setCell (show w.heap.size ≤ g3 by have := HGE.out; omega) _)
      have HVS := Lib.hid (show w2.heap.size = w1.heap.size by rw [hw]; exact set_size _ _ _ _)
      have HVE := Lib.hid hne
      clear hw hne
      have HV12 := Aside0.mk ((HVE.out g12 (by have := HGE.out; have := H12.out; omega)).trans HQ12.out)
      have HRO := Aside0.mk (show Kd.F kPk w2 (fun k => okN (fun k => F k ∧ k < w.heap.size) wA k) A1 xu.length xu from Kd.F_step (Kd.N_F HN1.out) (fun j hj _ => HVE.out j (by have := HGE.out; have := HSO.out; rcases hj with hj | hj <;> omega)))
      have HRC := Lib.hid (Kd.N_reads' HN1.out).2.1
      have HSV := Lib.hid (show wA.heap.size ≤ w2.heap.size by have := HVS.out; have := HB1.out.size; omega)
      clear HQ12 HA12 HA3 HA4 HA5 HA6 HA7 r1 HN1 HB1 q1 f1 HQ3 HQ4 HQ5 HQ6 HQ7
      have HFA2 := Lib.hid (show ∀ k, (F k ∧ k < w.heap.size) ∨ wA.heap.size ≤ k → ¬ Ka k from fun k hk h => by
        rcases hk with hk | hk
        · exact (HFF.out k hk.1).1 h
        · have := HKA.out k h; have := HSO.out; omega)
      have hx2' := HX.out.step (w1 := w2) (fun k hk hlt => HVB.out.block k hlt)
      have HSX := Aside0.mk (show SideAt w2 (fun k => (F k ∧ k < w.heap.size) ∨ wA.heap.size ≤ k) { x with und := xu } A1 c1' Ao co Ai ci from ⟨HRC.out, Kd.F_mono HRO.out (fun k hk => hk.elim (fun h => .inl h.1) (fun h => .inr h)), hx2'.co, Kd.F_mono hx2'.fo (fun k hk => .inl hk), hx2'.ci, Kd.F_mono hx2'.fi (fun k hk => .inl hk)⟩)
      have HSY := Aside0.mk (show SideAt w2 (fun k => (F k ∧ k < w.heap.size) ∨ wA.heap.size ≤ k) y Av cv Aq cq Aj cj from (HY.out.step (w1 := w2) (fun k hk hlt => HVB.out.block k hlt)).mono (fun k hk _ => .inl hk))
      have HQF := Aside0.mk (show Kd.F kB w2 (fun k => (F k ∧ k < w.heap.size) ∨ wA.heap.size ≤ k) B1 q.length q from Kd.F_mono (Kd.F_step HF1.out (fun k hk hlt => (HVB.out.block k hk.2).trans (HBW.out.block k hk.2).symm)) (fun k hk => .inl hk))
      clear hx2' HF1 HRO HRC
      obtain ⟨⟨r0, r1, r2, r3, r4, r5, r6⟩, _⟩ := cells7 HV3.out
      obtain ⟨⟨z0, z1, z2, z3, z4, z5, z6⟩, _⟩ := cells7 HV4.out
      have y0 := blk_cell HV12.out 0
      have y1 := blk_cell HV12.out 1
      have y3 := blk_cell HV5.out 3
      go_upto_region 27 with (go_at_call 26; refine (receive_calls w2 lo Ka (fun k => (F k ∧ k < w.heap.size) ∨ wA.heap.size ≤ k) W { x with und := xu } y pa pb A1 Ao Ai Av Aq Aj c1' co ci cv cq cj B1 d1 q a b ms nn (HI.out.fine (by have := HNN.out; omega)) (HT.out.a.stay HVB.out) HSX.out HSY.out HU.out.1 HQF.out HDD1.out HU.out.2.1 HU.out.2.2.1 HU.out.2.2.2.1 HU.out.2.2.2.2.1 HU.out.2.2.2.2.2.1 HU.out.2.2.2.2.2.2.1 HU.out.2.2.2.2.2.2.2.1 HU.out.2.2.2.2.2.2.2.2 HFA2.out).mono ?_; rintro e w3 ⟨Ai2, ci2, rfl, hz, hm, hs⟩; obtain ⟨x2, hx2⟩ : ∃ x2, x2 = Sd.recv { x with und := xu } a b nn ms := ⟨_, rfl⟩; rw [← hx2] at hz hs ⊢; have HZ3 := Aside0.mk hz; have HM3 := Aside0.mk hm; have HS3 := Aside0.mk hs; have HX2 := Lib.hid hx2; clear hz hm hs hx2)
      obtain ⟨wB, hwB⟩ : ∃ wB, wB = w3.alloc (.cells #[.pointer (some ⟨pa, 0, none⟩), .slice A1 x2.und.length c1', .slice Ao x2.out.length co, .slice Ai2 x2.inn.length ci2, .int .i64 x2.so, .int .i64 x2.si, .int .i64 x2.tld] 43) := ⟨_, rfl⟩
      rw [← hwB]
      obtain ⟨g13, e13⟩ : ∃ g13, g13 = w3.heap.size := ⟨_, rfl⟩
      rw [← e13]
      have hgn : ∀ k, w.heap.size ≤ k → ¬ Ka k := fun k hk h => by have := HKA.out k h; omega
      have hB : ∀ k : Nat, k < w2.heap.size → ¬ Ka k → wB.heap[k]? = w2.heap[k]? := fun k hk hn => by rw [hwB]; exact (heap_alloc_old _ _ (Nat.lt_of_lt_of_le hk HM3.out.kept.1)).trans (HM3.out.kept.2 k hk hn)
      have HX13 := Aside0.mk (show wB.heap[g13]? = some (.cells #[.pointer (some ⟨pa, 0, none⟩), .slice A1 x2.und.length c1', .slice Ao x2.out.length co, .slice Ai2 x2.inn.length ci2, .int .i64 x2.so, .int .i64 x2.si, .int .i64 x2.tld] 43 (0, 0)) by rw [hwB, e13]; exact heap_alloc_new _ _)
      have HBB := Aside0.mk (show Below w3.heap.size w3 wB by rw [hwB]; exact below_alloc (Below.refl _ _) _)
      have HZB4 := Aside0.mk ((hB g4 (blk_lt HV4.out) (hgn _ (by have := HGE.out; omega))).trans HV4.out)
      have HZB5 := Aside0.mk ((hB g5 (blk_lt HV5.out) (hgn _ (by have := HGE.out; omega))).trans HV5.out)
      have HZB6 := Aside0.mk ((hB g6 (blk_lt HV6.out) (hgn _ (by have := HGE.out; omega))).trans HV6.out)
      have HZB7 := Aside0.mk ((hB g7 (blk_lt HV7.out) (hgn _ (by have := HGE.out; omega))).trans HV7.out)
      have H13 := Lib.hid (show w2.heap.size ≤ g13 ∧ g13 = w3.heap.size by have := HM3.out.kept.1; omega)
      have HKZ := Lib.hid hB
      have h13a : w2.heap.size ≤ w3.heap.size := HM3.out.kept.1
      clear hwB e13 hgn hB r0 r1 r2 r3 r4 r5 r6 z0 z1 z2 z3 z4 z5 z6 y0 y1 y3 HV3 HV4 HV5 HV6 HV7 HV12 HSX HSY HQF
      refine wp_region_noPanic ?_
      refine wp_region_held_drew (S := fun V => V.heap[g13]? = some (.cells #[.pointer (some ⟨pa, 0, none⟩), .slice A1 x2.und.length c1', .slice Ao x2.out.length co, .slice Ai2 x2.inn.length ci2, .int .i64 x2.so, .int .i64 x2.si, .int .i64 x2.tld] 43 (0, 0)) ∧ V.heap[g4]? = some (.cells (sdC y pb Av cv Aq cq Aj cj) 43 (0, 0)) ∧ V.heap[g5]? = some (.cells (opC 2 who kk nn B p.length d) 59 (0, 0))) (by kernel_rfl) (⟨HX13.out, HZB4.out, HZB5.out⟩) (fun hHeld => ?_)
      obtain ⟨wd, hwd⟩ : ∃ wd, wd = wB.drew := ⟨_, rfl⟩
      rw [← hwd] at hHeld ⊢
      have HBD := Aside0.mk (show Below wB.heap.size wB wd by rw [hwd]; exact (Below.refl _ _).drew)
      have HDE := Lib.hid (show ∀ k : Nat, wd.heap[k]? = wB.heap[k]? by rw [hwd]; exact fun _ => rfl)
      have HDS := Lib.hid (show wd.heap.size = wB.heap.size by rw [hwd]; rfl)
      clear hwd
      have HZ6 := Aside0.mk ((HDE.out g6).trans HZB6.out)
      have HZ7 := Aside0.mk ((HDE.out g7).trans HZB7.out)
      have HW4 := Lib.hid (show w.heap.size ≤ wd.heap.size by have := HVB.out.size; have := HM3.out.below.size; have := HBB.out.size; have := HDS.out; omega)
      refine wpAnyH_take (i := 0) (v := ?_) rfl (by kernel_rfl) (by kernel_rfl) (by kernel_rfl) (fun _ _ _ h => h) (Or.inl ⟨by rfl, ?_⟩) (by assumption) ?_
      rotate_left 1
      · first | (intro w hSw; obtain ⟨⟨r0, r1, r2, r3, r4, r5, r6⟩, _⟩ := cells7 hSw.1; go_simp; done) | (intro w hSw; obtain ⟨⟨r0, r1, r2, r3, r4, r5, r6⟩, _⟩ := cells7 hSw.1; go_simp; with_reducible rfl)
      try simp only [Act.put, List.getElem_toArray, List.getElem_cons_zero, List.getElem_cons_succ, List.setIfInBounds_toArray, List.set_cons_zero, List.set_cons_succ]
      refine wpAnyH_take (i := 1) (v := ?_) rfl (by kernel_rfl) (by kernel_rfl) (by kernel_rfl) (fun _ _ _ h => h) (Or.inl ⟨by rfl, ?_⟩) (by assumption) ?_
      rotate_left 1
      · first | (intro w hSw; obtain ⟨⟨r0, r1, r2, r3, r4, r5, r6⟩, _⟩ := cells7 hSw.2.1; go_simp; done) | (intro w hSw; obtain ⟨⟨r0, r1, r2, r3, r4, r5, r6⟩, _⟩ := cells7 hSw.2.1; go_simp; with_reducible rfl)
      try simp only [Act.put, List.getElem_toArray, List.getElem_cons_zero, List.getElem_cons_succ, List.setIfInBounds_toArray, List.set_cons_zero, List.set_cons_succ]
      refine wpAnyH_take (i := 2) (v := ?_) rfl (by kernel_rfl) (by kernel_rfl) (by kernel_rfl) (fun _ _ _ h => h) (Or.inl ⟨by rfl, ?_⟩) (by assumption) ?_
      rotate_left 1
      · first | (intro w hSw; go_simp; done) | (intro w hSw; go_simp; with_reducible rfl)
      try simp only [Act.put, List.getElem_toArray, List.getElem_cons_zero, List.getElem_cons_succ, List.setIfInBounds_toArray, List.set_cons_zero, List.set_cons_succ]
      refine wpAnyH_ready (rs := [3]) (by kernel_rfl) (by simp) ?_
      refine AllReadyH.cons rfl (fun K hK => ?_) AllReadyH.nil
      have HSS := Lib.hid hHeld; obtain ⟨⟨r0, r1, r2, r3, r4, r5, r6⟩, s0, s1, s2, s3, s4, s5, s6⟩ := cells7 (show wd.heap[g6]? = some (.cells #[.pointer none, .slice none 0 0, .slice none 0 0, .slice none 0 0, .int .i64 0, .int .i64 0, .int .i64 0] 43 (0, 0)) from HZ6.out); go_simp
      refine hK.out _ _ (by rw [put7_fold]; exact ⟨(put7_ne _ (by have := HGE.out; have := H13.out; have := HSV.out; have := HSO.out; omega) _ _ _ _ _ _ _).trans hHeld.1, (put7_ne _ (by have := HGE.out; have := H13.out; have := HSV.out; have := HSO.out; omega) _ _ _ _ _ _ _).trans hHeld.2.1, (put7_ne _ (by have := HGE.out; have := H13.out; have := HSV.out; have := HSO.out; omega) _ _ _ _ _ _ _).trans hHeld.2.2⟩) (fun hHeld => ?_)
      clear hK K
      try simp only [Act.put, List.getElem_toArray, List.getElem_cons_zero, List.getElem_cons_succ, List.setIfInBounds_toArray, List.set_cons_zero, List.set_cons_succ]
      generalize hw5 : (((((((wd.setCell ⟨g6, 0, none⟩ (.pointer (some ⟨pa, 0, none⟩))).setCell ⟨g6, 1, none⟩ (.slice A1 x2.und.length c1')).setCell ⟨g6, 2, none⟩ (.slice Ao x2.out.length co)).setCell ⟨g6, 3, none⟩ (.slice Ai2 x2.inn.length ci2)).setCell ⟨g6, 4, none⟩ (.int .i64 x2.so)).setCell ⟨g6, 5, none⟩ (.int .i64 x2.si)).setCell ⟨g6, 6, none⟩ (.int .i64 x2.tld)) = w5 at hHeld ⊢
      have HW5 := Lib.hid (show w5 = put7 wd g6 (.pointer (some ⟨pa, 0, none⟩)) (.slice A1 x2.und.length c1') (.slice Ao x2.out.length co) (.slice Ai2 x2.inn.length ci2) (.int .i64 x2.so) (.int .i64 x2.si) (.int .i64 x2.tld) from hw5.symm)
      have HZ7' := Aside0.mk (show w5.heap[g7]? = some (.cells #[.pointer none, .slice none 0 0, .slice none 0 0, .slice none 0 0, .int .i64 0, .int .i64 0, .int .i64 0] 43 (0, 0)) by rw [HW5.out]; exact (put7_ne _ (by have := HGE.out; have := H13.out; have := HSV.out; have := HSO.out; omega) _ _ _ _ _ _ _).trans HZ7.out)
      clear hw5
      refine wpAnyH_ready (rs := [4]) (by kernel_rfl) (by simp) ?_
      refine AllReadyH.cons rfl (fun K hK => ?_) AllReadyH.nil
      obtain ⟨⟨r0, r1, r2, r3, r4, r5, r6⟩, s0, s1, s2, s3, s4, s5, s6⟩ := cells7 HZ7'.out; go_simp
      refine hK.out _ _ (by rw [put7_fold]; exact ⟨(put7_ne _ (by have := HGE.out; have := H13.out; have := HSV.out; have := HSO.out; omega) _ _ _ _ _ _ _).trans hHeld.1, (put7_ne _ (by have := HGE.out; have := H13.out; have := HSV.out; have := HSO.out; omega) _ _ _ _ _ _ _).trans hHeld.2.1, (put7_ne _ (by have := HGE.out; have := H13.out; have := HSV.out; have := HSO.out; omega) _ _ _ _ _ _ _).trans hHeld.2.2⟩) (fun hHeld => ?_)
      clear hK K
      try simp only [Act.put, List.getElem_toArray, List.getElem_cons_zero, List.getElem_cons_succ, List.setIfInBounds_toArray, List.set_cons_zero, List.set_cons_succ]
      refine wpAnyH_take (i := 5) (v := ?_) rfl (by kernel_rfl) (by kernel_rfl) (by kernel_rfl) (fun _ _ _ h => h) (Or.inl ⟨by rfl, ?_⟩) (by assumption) ?_
      rotate_left 1
      · first | (intro w hSw; go_simp; done) | (intro w hSw; go_simp; with_reducible rfl)
      try simp only [Act.put, List.getElem_toArray, List.getElem_cons_zero, List.getElem_cons_succ, List.setIfInBounds_toArray, List.set_cons_zero, List.set_cons_succ]
      refine wpAnyH_done (by kernel_rfl) ?_ _
      refine NoPanic.normal ?_
      rw [put7_fold]
      obtain ⟨w9, hw9⟩ : ∃ w9, w9 = put7 w5 g7 (.pointer (some ⟨pb, 0, none⟩)) (.slice Av y.und.length cv) (.slice Aq y.out.length cq) (.slice Aj y.inn.length cj) (.int .i64 y.so) (.int .i64 y.si) (.int .i64 y.tld) := ⟨_, rfl⟩
      rw [← hw9]
      have hp9 : PutTwo w wd w9 g6 g7 := by rw [hw9, HW5.out]; exact put_two (by have := HGE.out; have := H13.out; have := HSV.out; have := HSO.out; omega) (by have := HGE.out; have := H13.out; have := HSV.out; have := HSO.out; omega) HW4.out _ _ _ _ _ _ _ _ _ _ _ _ _ _
      have hc6 : w9.heap[g6]? = some (.cells #[.pointer (some ⟨pa, 0, none⟩), .slice A1 x2.und.length c1', .slice Ao x2.out.length co, .slice Ai2 x2.inn.length ci2, .int .i64 x2.so, .int .i64 x2.si, .int .i64 x2.tld] 43 (0, 0)) := by rw [hw9, HW5.out]; exact (put7_ne _ (by have := HGE.out; have := H13.out; have := HSV.out; have := HSO.out; omega) _ _ _ _ _ _ _).trans (put7_at (show wd.heap[g6]? = some (.cells #[.pointer none, .slice none 0 0, .slice none 0 0, .slice none 0 0, .int .i64 0, .int .i64 0, .int .i64 0] 43 (0, 0)) from HZ6.out) _ _ _ _ _ _ _)
      have hc7 : w9.heap[g7]? = some (.cells #[.pointer (some ⟨pb, 0, none⟩), .slice Av y.und.length cv, .slice Aq y.out.length cq, .slice Aj y.inn.length cj, .int .i64 y.so, .int .i64 y.si, .int .i64 y.tld] 43 (0, 0)) := by rw [hw9]; exact put7_at HZ7'.out _ _ _ _ _ _ _
      have HP9 := Aside0.mk hp9
      obtain ⟨⟨r0, r1, r2, r3, r4, r5, r6⟩, _⟩ := cells7 hc6
      obtain ⟨⟨q0, q1, q2, q3, q4, q5, q6⟩, _⟩ := cells7 hc7
      clear hw9 HW5 hp9 hc6 hc7 hHeld
      go_wp2
      (try simp only [Exit.inBlock, Exit.then])
      refine bodyPost_ret (v := .tuple #[.agg #[.pointer (some ⟨pa, 0, none⟩), .slice A1 x2.und.length c1', .slice Ao x2.out.length co, .slice Ai2 x2.inn.length ci2, .int .i64 x2.so, .int .i64 x2.si, .int .i64 x2.tld], .agg #[.pointer (some ⟨pb, 0, none⟩), .slice Av y.und.length cv, .slice Aq y.out.length cq, .slice Aj y.inn.length cj, .int .i64 y.so, .int .i64 y.si, .int .i64 y.tld], .bool true]) (by simp [results, Try.results24, go_sem, r0, r1, r2, r3, r4, r5, r6, q0, q1, q2, q3, q4, q5, q6]) rfl ?_
      have hge := HGE.out
      have hso := HSO.out
      have hsv := HSV.out
      have hgn : ∀ k, w.heap.size ≤ k → ¬ Ka k := fun k hk h => by have := HKA.out k h; omega
      have hkd : ∀ k : Nat, k < w2.heap.size → ¬ Ka k → wd.heap[k]? = w2.heap[k]? := fun k hk hn => (HDE.out k).trans (HKZ.out k hk hn)
      have hkw : ∀ k, k < w.heap.size → ¬ Ka k → wd.heap[k]? = w.heap[k]? := fun k hk hn => (hkd k (by omega) hn).trans (HVB.out.block k hk)
      have hb3 : Below w3.heap.size w3 wd := HBB.out.trans (HBD.out.mono HBB.out.size)
      have hM : Moved w wd lo Ka Ka := Moved.trans (K1 := Ka) ⟨HVB.out.mono HLO.out, ⟨HVB.out.size, fun k hk _ => HVB.out.block k hk⟩, fun k hk => .inl hk⟩ (HM3.out.trans ⟨hb3.mono (by have := HLO.out; omega), ⟨hb3.size, fun k hk _ => hb3.block k hk⟩, fun k hk => .inl hk⟩)
      have hy4 := HY.out.step (w1 := wd) (fun k hk hlt => hkw k hlt (HFF.out k hk.1).1)
      have hx4 := HS3.out.step (w1 := wd) (fun k hk hlt => hb3.block k hlt)
      refine step_end (x := x2) (y := y) (Ka' := Ka) (by rw [HX2.out]; exact (HI.out.recv HUN.out nn xu (fun q hq => by rw [HXU.out] at hq; exact (List.mem_append.1 hq).elim List.mem_of_mem_take List.mem_of_mem_drop) (by have := HI.out.ua; rw [HXU.out]; simp only [List.length_append, List.length_take, List.length_drop]; omega)).more (Nat.le_succ _)) HP9.out (by omega) (by omega) (HZ3.out.stay hb3) (HT.out.b.move (fun k hk => hkw k (HKB.out k hk) (fun h => HT.out.ap k h hk)) HW4.out) hM (hx4.mono (fun k hk _ => ?_)) (hy4.mono (fun k hk _ => .inl hk)) (hgn g6 (by omega)) (hgn g7 (by omega)) HT.out.ap HFF.out HKB.out HLO.out
      rcases hk with ⟨h | h, _⟩ | h
      · exact .inl h
      · exact .inr ⟨by omega, by omega, by omega, hgn k (by omega)⟩
      · exact .inr ⟨by omega, by omega, by omega, hgn k (by omega)⟩
    have e2 : (kind == 2) = false := beq_eq_false_iff_ne.2 hk2
    go_upto_region 28 with (fail)
    by_cases hk3 : kind = 3
    · -- LOST
      have e3 : (kind == 3) = true := beq_iff_eq.2 hk3
      subst hk3
      have HSO := Lib.hid (show w.heap.size + 1 + 1 + 1 + 1 + 1 ≤ wc.heap.size by have := HSZ.out; omega)
      go_upto_region 32 with (go_at_call 36; refine (take_calls wc (fun k => F k ∧ k < w.heap.size) Au cu idx x.und (Kd.F_step HX.out.fu (fun k hk _ => HBW.out.block k hk.2)) HX.out.cu (HIX.out (by omega)) (by have := HUL.out; omega)).mono ?_; rintro e w1 ⟨v1, rfl, hn1, hb1⟩; obtain ⟨xu, hxu⟩ : ∃ xu, xu = x.und.take idx ++ x.und.drop (idx + 1) := ⟨_, rfl⟩; rw [← hxu] at hn1; obtain ⟨A1, c1', rfl⟩ := Kd.N_slice hn1; have HXU := Lib.hid hxu; have HN1 := Aside0.mk hn1; have HB1 := Aside0.mk hb1; have HQ3 := Aside0.mk ((hb1.block _ (blk_lt HG3.out)).trans HG3.out); have HQ4 := Aside0.mk ((hb1.block _ (blk_lt HG4.out)).trans HG4.out); have HQ5 := Aside0.mk ((hb1.block _ (blk_lt HG5.out)).trans HG5.out); have HQ6 := Aside0.mk ((hb1.block _ (blk_lt HG6.out)).trans HG6.out); have HQ7 := Aside0.mk ((hb1.block _ (blk_lt HG7.out)).trans HG7.out); have HQB := Aside0.mk (HBW.out.trans (hb1.mono HBW.out.size)); have q1 := blk_cell HQ3.out 1; have f1 := blk_frozen HQ3.out 1; clear hn1 hb1 hxu)
      obtain ⟨w2, hw⟩ : ∃ w2, w2 = w1.setCell ⟨g3, 1, none⟩ (.slice A1 xu.length c1') := ⟨_, rfl⟩
      rw [← hw]
      have hne : ∀ k : Nat, k ≠ g3 → w2.heap[k]? = w1.heap[k]? := fun k hk => by rw [hw]; exact Below.heap_setCell _ _ _ _ (by exact hk)
      have HV3 := Aside0.mk (show w2.heap[g3]? = some (.cells #[.pointer (some ⟨pa, 0, none⟩), .slice A1 xu.length c1', .slice Ao x.out.length co, .slice Ai x.inn.length ci, .int .i64 x.so, .int .i64 x.si, .int .i64 x.tld] 43 (0, 0)) by rw [hw]; exact blk_set HQ3.out 1 (.slice A1 xu.length c1'))
      have HV4 := Aside0.mk ((hne g4 (by have := HGE.out; omega)).trans HQ4.out)
      have HV5 := Aside0.mk ((hne g5 (by have := HGE.out; omega)).trans HQ5.out)
      have HV6 := Aside0.mk ((hne g6 (by have := HGE.out; omega)).trans HQ6.out)
      have HV7 := Aside0.mk ((hne g7 (by have := HGE.out; omega)).trans HQ7.out)
      have HVB := Aside0.mk (show Below w.heap.size w w2 by rw [hw]; exact HQB.out.setCell (show w.heap.size ≤ g3 by have := HGE.out; omega) _)
      have HVS := Lib.hid (show w2.heap.size = w1.heap.size by rw [hw]; exact set_size _ _ _ _)
      have HVE := Lib.hid hne
      clear hw hne
      have HRO := Aside0.mk (show Kd.F kPk w2 (fun k => okN (fun k => F k ∧ k < w.heap.size) wc k) A1 xu.length xu from Kd.F_step (Kd.N_F HN1.out) (fun j hj _ => HVE.out j (by have := HGE.out; have := HSO.out; rcases hj with hj | hj <;> omega)))
      have HRC := Lib.hid (Kd.N_reads' HN1.out).2.1
      have HSV := Lib.hid (show wc.heap.size ≤ w2.heap.size by have := HVS.out; have := HB1.out.size; omega)
      clear HN1 HB1 q1 f1 HQ3 HQ4 HQ5 HQ6 HQ7
      clear HG3 HG4 HG5 HG6 HG7
      refine wp_region_noPanic ?_
      refine wp_region_held_drew (S := fun V => V.heap[g3]? = some (.cells #[.pointer (some ⟨pa, 0, none⟩), .slice A1 xu.length c1', .slice Ao x.out.length co, .slice Ai x.inn.length ci, .int .i64 x.so, .int .i64 x.si, .int .i64 x.tld] 43 (0, 0)) ∧ V.heap[g4]? = some (.cells (sdC y pb Av cv Aq cq Aj cj) 43 (0, 0)) ∧ V.heap[g5]? = some (.cells (opC 3 who kk nn B p.length d) 59 (0, 0))) (by kernel_rfl) (⟨HV3.out, HV4.out, HV5.out⟩) (fun hHeld => ?_)
      obtain ⟨wd, hwd⟩ : ∃ wd, wd = w2.drew := ⟨_, rfl⟩
      rw [← hwd] at hHeld ⊢
      have HBD := Aside0.mk (show Below w2.heap.size w2 wd by rw [hwd]; exact (Below.refl _ _).drew)
      have HDE := Lib.hid (show ∀ k : Nat, wd.heap[k]? = w2.heap[k]? by rw [hwd]; exact fun _ => rfl)
      have HDS := Lib.hid (show wd.heap.size = w2.heap.size by rw [hwd]; rfl)
      clear hwd
      have HZ6 := Aside0.mk ((HDE.out g6).trans HV6.out)
      have HZ7 := Aside0.mk ((HDE.out g7).trans HV7.out)
      have HW4 := Lib.hid (show w.heap.size ≤ wd.heap.size by have := HVB.out.size; have := HDS.out; omega)
      have HBQ := Aside0.mk (show Below w.heap.size w wd from HVB.out.trans (HBD.out.mono HVB.out.size))
      refine wpAnyH_take (i := 0) (v := ?_) rfl (by kernel_rfl) (by kernel_rfl) (by kernel_rfl) (fun _ _ _ h => h) (Or.inl ⟨by rfl, ?_⟩) (by assumption) ?_
      rotate_left 1
      · first | (intro w hSw; obtain ⟨⟨r0, r1, r2, r3, r4, r5, r6⟩, _⟩ := cells7 hSw.1; go_simp; done) | (intro w hSw; obtain ⟨⟨r0, r1, r2, r3, r4, r5, r6⟩, _⟩ := cells7 hSw.1; go_simp; with_reducible rfl)
      try simp only [Act.put, List.getElem_toArray, List.getElem_cons_zero, List.getElem_cons_succ, List.setIfInBounds_toArray, List.set_cons_zero, List.set_cons_succ]
      refine wpAnyH_take (i := 1) (v := ?_) rfl (by kernel_rfl) (by kernel_rfl) (by kernel_rfl) (fun _ _ _ h => h) (Or.inl ⟨by rfl, ?_⟩) (by assumption) ?_
      rotate_left 1
      · first | (intro w hSw; obtain ⟨⟨r0, r1, r2, r3, r4, r5, r6⟩, _⟩ := cells7 hSw.2.1; go_simp; done) | (intro w hSw; obtain ⟨⟨r0, r1, r2, r3, r4, r5, r6⟩, _⟩ := cells7 hSw.2.1; go_simp; with_reducible rfl)
      try simp only [Act.put, List.getElem_toArray, List.getElem_cons_zero, List.getElem_cons_succ, List.setIfInBounds_toArray, List.set_cons_zero, List.set_cons_succ]
      refine wpAnyH_ready (rs := [2]) (by kernel_rfl) (by simp) ?_
      refine AllReadyH.cons rfl (fun K hK => ?_) AllReadyH.nil
      have HSS := Lib.hid hHeld; obtain ⟨⟨r0, r1, r2, r3, r4, r5, r6⟩, s0, s1, s2, s3, s4, s5, s6⟩ := cells7 (show wd.heap[g6]? = some (.cells #[.pointer none, .slice none 0 0, .slice none 0 0, .slice none 0 0, .int .i64 0, .int .i64 0, .int .i64 0] 43 (0, 0)) from HZ6.out); go_simp
      refine hK.out _ _ (by rw [put7_fold]; exact ⟨(put7_ne _ (by have := HGE.out; omega) _ _ _ _ _ _ _).trans hHeld.1, (put7_ne _ (by have := HGE.out; omega) _ _ _ _ _ _ _).trans hHeld.2.1, (put7_ne _ (by have := HGE.out; omega) _ _ _ _ _ _ _).trans hHeld.2.2⟩) (fun hHeld => ?_)
      clear hK K
      try simp only [Act.put, List.getElem_toArray, List.getElem_cons_zero, List.getElem_cons_succ, List.setIfInBounds_toArray, List.set_cons_zero, List.set_cons_succ]
      generalize hw5 : (((((((wd.setCell ⟨g6, 0, none⟩ (.pointer (some ⟨pa, 0, none⟩))).setCell ⟨g6, 1, none⟩ (.slice A1 xu.length c1')).setCell ⟨g6, 2, none⟩ (.slice Ao x.out.length co)).setCell ⟨g6, 3, none⟩ (.slice Ai x.inn.length ci)).setCell ⟨g6, 4, none⟩ (.int .i64 x.so)).setCell ⟨g6, 5, none⟩ (.int .i64 x.si)).setCell ⟨g6, 6, none⟩ (.int .i64 x.tld)) = w5 at hHeld ⊢
      have HW5 := Lib.hid (show w5 = put7 wd g6 (.pointer (some ⟨pa, 0, none⟩)) (.slice A1 xu.length c1') (.slice Ao x.out.length co) (.slice Ai x.inn.length ci) (.int .i64 x.so) (.int .i64 x.si) (.int .i64 x.tld) from hw5.symm)
      have HZ7' := Aside0.mk (show w5.heap[g7]? = some (.cells #[.pointer none, .slice none 0 0, .slice none 0 0, .slice none 0 0, .int .i64 0, .int .i64 0, .int .i64 0] 43 (0, 0)) by rw [HW5.out]; exact (put7_ne _ (by have := HGE.out; omega) _ _ _ _ _ _ _).trans HZ7.out)
      clear hw5
      refine wpAnyH_ready (rs := [3]) (by kernel_rfl) (by simp) ?_
      refine AllReadyH.cons rfl (fun K hK => ?_) AllReadyH.nil
      obtain ⟨⟨r0, r1, r2, r3, r4, r5, r6⟩, s0, s1, s2, s3, s4, s5, s6⟩ := cells7 HZ7'.out; go_simp
      refine hK.out _ _ (by rw [put7_fold]; exact ⟨(put7_ne _ (by have := HGE.out; omega) _ _ _ _ _ _ _).trans hHeld.1, (put7_ne _ (by have := HGE.out; omega) _ _ _ _ _ _ _).trans hHeld.2.1, (put7_ne _ (by have := HGE.out; omega) _ _ _ _ _ _ _).trans hHeld.2.2⟩) (fun hHeld => ?_)
      clear hK K
      try simp only [Act.put, List.getElem_toArray, List.getElem_cons_zero, List.getElem_cons_succ, List.setIfInBounds_toArray, List.set_cons_zero, List.set_cons_succ]
      refine wpAnyH_take (i := 4) (v := ?_) rfl (by kernel_rfl) (by kernel_rfl) (by kernel_rfl) (fun _ _ _ h => h) (Or.inl ⟨by rfl, ?_⟩) (by assumption) ?_
      rotate_left 1
      · first | (intro w hSw; go_simp; done) | (intro w hSw; go_simp; with_reducible rfl)
      try simp only [Act.put, List.getElem_toArray, List.getElem_cons_zero, List.getElem_cons_succ, List.setIfInBounds_toArray, List.set_cons_zero, List.set_cons_succ]
      refine wpAnyH_done (by kernel_rfl) ?_ _
      refine NoPanic.normal ?_
      rw [put7_fold]
      obtain ⟨w9, hw9⟩ : ∃ w9, w9 = put7 w5 g7 (.pointer (some ⟨pb, 0, none⟩)) (.slice Av y.und.length cv) (.slice Aq y.out.length cq) (.slice Aj y.inn.length cj) (.int .i64 y.so) (.int .i64 y.si) (.int .i64 y.tld) := ⟨_, rfl⟩
      rw [← hw9]
      have hp9 : PutTwo w wd w9 g6 g7 := by rw [hw9, HW5.out]; exact put_two (by have := HGE.out; omega) (by have := HGE.out; omega) HW4.out _ _ _ _ _ _ _ _ _ _ _ _ _ _
      have hc6 : w9.heap[g6]? = some (.cells #[.pointer (some ⟨pa, 0, none⟩), .slice A1 xu.length c1', .slice Ao x.out.length co, .slice Ai x.inn.length ci, .int .i64 x.so, .int .i64 x.si, .int .i64 x.tld] 43 (0, 0)) := by rw [hw9, HW5.out]; exact (put7_ne _ (by have := HGE.out; omega) _ _ _ _ _ _ _).trans (put7_at (show wd.heap[g6]? = some (.cells #[.pointer none, .slice none 0 0, .slice none 0 0, .slice none 0 0, .int .i64 0, .int .i64 0, .int .i64 0] 43 (0, 0)) from HZ6.out) _ _ _ _ _ _ _)
      have hc7 : w9.heap[g7]? = some (.cells #[.pointer (some ⟨pb, 0, none⟩), .slice Av y.und.length cv, .slice Aq y.out.length cq, .slice Aj y.inn.length cj, .int .i64 y.so, .int .i64 y.si, .int .i64 y.tld] 43 (0, 0)) := by rw [hw9]; exact put7_at HZ7'.out _ _ _ _ _ _ _
      have HP9 := Aside0.mk hp9
      obtain ⟨⟨r0, r1, r2, r3, r4, r5, r6⟩, _⟩ := cells7 hc6
      obtain ⟨⟨q0, q1, q2, q3, q4, q5, q6⟩, _⟩ := cells7 hc7
      clear hw9 HW5 hp9 hc6 hc7 hHeld
      go_wp2
      (try simp only [Exit.inBlock, Exit.then])
      refine bodyPost_ret (v := .tuple #[.agg #[.pointer (some ⟨pa, 0, none⟩), .slice A1 xu.length c1', .slice Ao x.out.length co, .slice Ai x.inn.length ci, .int .i64 x.so, .int .i64 x.si, .int .i64 x.tld], .agg #[.pointer (some ⟨pb, 0, none⟩), .slice Av y.und.length cv, .slice Aq y.out.length cq, .slice Aj y.inn.length cj, .int .i64 y.so, .int .i64 y.si, .int .i64 y.tld], .bool true]) (by simp [results, Try.results24, go_sem, r0, r1, r2, r3, r4, r5, r6, q0, q1, q2, q3, q4, q5, q6]) rfl ?_
      have hge := HGE.out
      have hgn : ∀ k, w.heap.size ≤ k → ¬ Ka k := fun k hk h => by have := HKA.out k h; omega
      have hM : Moved w wd lo Ka Ka := ⟨HBQ.out.mono HLO.out, ⟨HBQ.out.size, fun k hk _ => HBQ.out.block k hk⟩, fun k hk => .inl hk⟩
      have hx4 := HX.out.step (w1 := wd) (fun k hk hlt => HBQ.out.block k hlt)
      have hy4 := HY.out.step (w1 := wd) (fun k hk hlt => HBQ.out.block k hlt)
      obtain rfl := HXU.out
      have hso := HSO.out
      have hu4 := Kd.F_step (W1 := wd) HRO.out (fun k hk hlt => HBD.out.block k hlt)
      refine step_end (x := { x with und := _ }) (y := y) (Ka' := Ka) (HI.out.moves _ (fun q hq => (List.mem_append.1 hq).elim List.mem_of_mem_take List.mem_of_mem_drop) (by have := HI.out.ua; simp only [List.length_append, List.length_take, List.length_drop]; omega)) HP9.out (by omega) (by omega) (HT.out.a.stay HBQ.out) (HT.out.b.stay HBQ.out) hM ⟨HRC.out, Kd.F_mono hu4 (fun k hk => ?_), hx4.co, Kd.F_mono hx4.fo (fun k hk => .inl hk), hx4.ci, Kd.F_mono hx4.fi (fun k hk => .inl hk)⟩ (hy4.mono (fun k hk _ => .inl hk)) (hgn g6 (by omega)) (hgn g7 (by omega)) HT.out.ap HFF.out HKB.out HLO.out
      rcases hk with h | h
      · exact .inl h.1
      · exact .inr ⟨by omega, by omega, by omega, hgn k (by omega)⟩
    have e3 : (kind == 3) = false := beq_eq_false_iff_ne.2 hk3
    go_upto_region 30 with (fail)
    by_cases hk4 : kind = 4
    · -- DOUBLED
      subst hk4
      obtain ⟨ad, B1, d1, rfl, h1, h2, hd1, hF1, hok⟩ := PF_cell (Kd.F_step HX.out.fu (fun k hk _ => HBW.out.block k hk.2)) (HIX.out (by omega))
      obtain ⟨pq, hpq⟩ : ∃ pq, pq = gq x.und idx := ⟨_, rfl⟩
      have PQM := Lib.hid (show (pq.1, pq.2) ∈ x.und by rw [hpq]; exact gq_mem (HIX.out (by omega)))
      rw [← hpq] at h1 h2 hd1 hF1
      have HF1 := Aside0.mk hF1
      have HDD1 := Lib.hid hd1
      have HOK := Lib.hid hok.2
      have hidx : (idx : Int) < x.und.length := by have := HIX.out (by omega); omega
      have hid0 : (0 : Int) ≤ idx := by omega
      clear hF1 hd1 hpq hok
      go_upto_region 31 with (fail)
      refine wp_region_noPanic ?_
      refine wp_region_held_drew (S := fun V => V.cell? (ad.add (idx * 2)) = some (.slice B1 pq.1.length d1) ∧ V.cell? ⟨(ad.add (idx * 2)).block, (ad.add (idx * 2)).off + 1, none⟩ = some (.int .i64 pq.2)) (by kernel_rfl) ⟨h1, h2⟩ (fun hHeld => ?_)
      obtain ⟨wd, hwd⟩ : ∃ wd, wd = wc.drew := ⟨_, rfl⟩
      rw [← hwd] at hHeld ⊢
      have HBD := Aside0.mk (show Below wc.heap.size wc wd by rw [hwd]; exact (Below.refl _ _).drew)
      have HDE := Lib.hid (show ∀ k : Nat, wd.heap[k]? = wc.heap[k]? by rw [hwd]; exact fun _ => rfl)
      have HDS := Lib.hid (show wd.heap.size = wc.heap.size by rw [hwd]; rfl)
      clear h1 h2
      have HBQ := Aside0.mk (show Below w.heap.size w wd from HBW.out.trans (HBD.out.mono HBW.out.size))
      have HD3 := Aside0.mk ((HDE.out g3).trans HG3.out)
      have HD4 := Aside0.mk ((HDE.out g4).trans HG4.out)
      have HD5 := Aside0.mk ((HDE.out g5).trans HG5.out)
      have HD6 := Aside0.mk ((HDE.out g6).trans HG6.out)
      have HD7 := Aside0.mk ((HDE.out g7).trans HG7.out)
      have HSO := Lib.hid (show w.heap.size + 1 + 1 + 1 + 1 + 1 ≤ wd.heap.size by have := HSZ.out; have := HDS.out; omega)
      have r0 := blk_cell HD3.out 1
      clear hwd
      refine wpAnyH_take (i := 0) (v := ?_) rfl (by kernel_rfl) (by kernel_rfl) (by kernel_rfl) (fun _ _ _ h => h) (Or.inl ⟨by rfl, ?_⟩) (by assumption) ?_
      rotate_left 1
      · first | (intro w hSw; go_simp; done) | (intro w hSw; go_simp; with_reducible rfl)
      try simp only [Act.put, List.getElem_toArray, List.getElem_cons_zero, List.getElem_cons_succ, List.setIfInBounds_toArray, List.set_cons_zero, List.set_cons_succ]
      refine wpAnyH_take (i := 2) (v := ?_) rfl (by kernel_rfl) (by kernel_rfl) (by kernel_rfl) (fun _ _ _ h => h) (Or.inl ⟨by rfl, ?_⟩) (by assumption) ?_
      rotate_left 1
      · first | (intro w hSw; go_simp; done) | (intro w hSw; go_simp; with_reducible rfl)
      try simp only [Act.put, List.getElem_toArray, List.getElem_cons_zero, List.getElem_cons_succ, List.setIfInBounds_toArray, List.set_cons_zero, List.set_cons_succ]
      refine wpAnyH_take (i := 4) (v := ?_) rfl (by kernel_rfl) (by kernel_rfl) (by kernel_rfl) (fun _ _ _ h => h) (Or.inl ⟨by rfl, ?_⟩) (by assumption) ?_
      rotate_left 1
      · first | (intro w hSw; go_simp; done) | (intro w hSw; go_simp; with_reducible rfl)
      try simp only [Act.put, List.getElem_toArray, List.getElem_cons_zero, List.getElem_cons_succ, List.setIfInBounds_toArray, List.set_cons_zero, List.set_cons_succ]
      refine wpAnyH_ready (rs := [1, 3]) (by kernel_rfl) (by simp) ?_
      refine AllReadyH.cons rfl (fun K hK => ?_) (AllReadyH.cons rfl (fun K hK => ?_) AllReadyH.nil)
      · skip
        go_simp
        refine hK.out _ _ hHeld (fun hHeld => ?_)
        clear hK K
        try simp only [Act.put, List.getElem_toArray, List.getElem_cons_zero, List.getElem_cons_succ, List.setIfInBounds_toArray, List.set_cons_zero, List.set_cons_succ]
        refine wpAnyH_ready (rs := [3]) (by kernel_rfl) (by simp) ?_
        refine AllReadyH.cons rfl (fun K hK => ?_) AllReadyH.nil
        go_simp
        refine hK.out _ _ hHeld (fun hHeld => ?_)
        clear hK K
        try simp only [Act.put, List.getElem_toArray, List.getElem_cons_zero, List.getElem_cons_succ, List.setIfInBounds_toArray, List.set_cons_zero, List.set_cons_succ]
        refine wpAnyH_take (i := 5) (v := ?_) rfl (by kernel_rfl) (by kernel_rfl) (by kernel_rfl) (fun _ _ _ h => h) (Or.inl ⟨by rfl, ?_⟩) (by assumption) ?_
        rotate_left 1
        · first | (intro w hSw; go_simp; done) | (intro w hSw; go_simp; with_reducible rfl)
        try simp only [Act.put, List.getElem_toArray, List.getElem_cons_zero, List.getElem_cons_succ, List.setIfInBounds_toArray, List.set_cons_zero, List.set_cons_succ]
        refine wpAnyH_take (i := 6) (v := ?_) rfl (by kernel_rfl) (by kernel_rfl) (by kernel_rfl) (fun _ _ _ h => h) (Or.inl ⟨by rfl, ?_⟩) (by assumption) ?_
        rotate_left 1
        · first | (intro w hSw; have r1 := hSw.1; have r2 := hSw.2; go_simp; done) | (intro w hSw; have r1 := hSw.1; have r2 := hSw.2; go_simp; with_reducible rfl)
        try simp only [Act.put, List.getElem_toArray, List.getElem_cons_zero, List.getElem_cons_succ, List.setIfInBounds_toArray, List.set_cons_zero, List.set_cons_succ]
        refine wpAnyH_ready (rs := [7]) (by kernel_rfl) (by simp) ?_
        refine AllReadyH.cons rfl (fun K hK => ?_) AllReadyH.nil
        go_simp
        refine (more_calls wd (fun k => F k ∧ k < w.heap.size) (some ad) cu x.und B1 d1 pq.1 pq.2 (Kd.F_step HX.out.fu (fun k hk _ => HBQ.out.block k hk.2)) (Kd.F_step HF1.out (fun k hk _ => HBD.out.block k (by have := HBW.out.size; omega))) HDD1.out (by have := HUL.out; omega)).mono ?_; rintro e w1 ⟨v1, rfl, hn1, hb1⟩; obtain ⟨xu, hxu⟩ : ∃ xu, xu = x.und ++ [(pq.1, pq.2)] := ⟨_, rfl⟩; rw [← hxu] at hn1; obtain ⟨A1, c1', rfl⟩ := Kd.N_slice hn1; have HXU := Lib.hid hxu; have HN1 := Aside0.mk hn1; have HB1 := Aside0.mk hb1; have HQ3 := Aside0.mk ((hb1.block _ (blk_lt HD3.out)).trans HD3.out); have HQ4 := Aside0.mk ((hb1.block _ (blk_lt HD4.out)).trans HD4.out); have HQ5 := Aside0.mk ((hb1.block _ (blk_lt HD5.out)).trans HD5.out); have HQ6 := Aside0.mk ((hb1.block _ (blk_lt HD6.out)).trans HD6.out); have HQ7 := Aside0.mk ((hb1.block _ (blk_lt HD7.out)).trans HD7.out); have HQB := Aside0.mk (HBQ.out.trans (hb1.mono HBQ.out.size)); clear hn1 hb1 hxu
        have hK7 := (show w1.cell? (ad.add (idx * 2)) = some (.slice B1 pq.1.length d1) ∧ w1.cell? ⟨(ad.add (idx * 2)).block, (ad.add (idx * 2)).off + 1, none⟩ = some (.int .i64 pq.2) from ⟨Below.keeps HB1.out hHeld.1 (World.block_lt_of_cell? _ _ hHeld.1), Below.keeps HB1.out hHeld.2 (World.block_lt_of_cell? _ _ hHeld.2)⟩)
        go_simp
        refine hK.out _ _ hK7 (fun hHeld => ?_)
        clear hK K
        try simp only [Act.put, List.getElem_toArray, List.getElem_cons_zero, List.getElem_cons_succ, List.setIfInBounds_toArray, List.set_cons_zero, List.set_cons_succ]
        refine wpAnyH_take (i := 8) (v := ?_) rfl (by kernel_rfl) (by kernel_rfl) (by kernel_rfl) (fun _ _ _ h => h) (Or.inl ⟨by rfl, ?_⟩) (by assumption) ?_
        rotate_left 1
        · first | (intro w hSw; go_simp; done) | (intro w hSw; go_simp; with_reducible rfl)
        try simp only [Act.put, List.getElem_toArray, List.getElem_cons_zero, List.getElem_cons_succ, List.setIfInBounds_toArray, List.set_cons_zero, List.set_cons_succ]
        refine wpAnyH_ready (rs := [9]) (by kernel_rfl) (by simp) ?_
        refine AllReadyH.cons rfl (fun K hK => ?_) AllReadyH.nil
        have q1 := blk_cell HQ3.out 1
        have f1 := blk_frozen HQ3.out 1
        go_simp
        refine hK.out _ _ (show _ ∧ _ from ⟨(World.cell?_setCell_far _ _ _ _ (show g3 ≠ (ad.add (idx * 2)).block by rw [add_block]; have := HOK.out; have := HGE.out; omega)).trans hHeld.1, (World.cell?_setCell_far _ _ _ _ (show g3 ≠ (ad.add (idx * 2)).block by rw [add_block]; have := HOK.out; have := HGE.out; omega)).trans hHeld.2⟩) (fun hHeld => ?_)
        clear hK K
        try simp only [Act.put, List.getElem_toArray, List.getElem_cons_zero, List.getElem_cons_succ, List.setIfInBounds_toArray, List.set_cons_zero, List.set_cons_succ]
        refine wpAnyH_done (by kernel_rfl) ?_ _
        refine NoPanic.normal ?_
        clear q1 f1
        go_upto_region 32 with (fail)
        obtain ⟨w2, hw⟩ : ∃ w2, w2 = w1.setCell ⟨g3, 1, none⟩ (.slice A1 xu.length c1') := ⟨_, rfl⟩
        rw [← hw]
        have hne : ∀ k : Nat, k ≠ g3 → w2.heap[k]? = w1.heap[k]? := fun k hk => by rw [hw]; exact Below.heap_setCell _ _ _ _ (by exact hk)
        have HV3 := Aside0.mk (show w2.heap[g3]? = some (.cells #[.pointer (some ⟨pa, 0, none⟩), .slice A1 xu.length c1', .slice Ao x.out.length co, .slice Ai x.inn.length ci, .int .i64 x.so, .int .i64 x.si, .int .i64 x.tld] 43 (0, 0)) by rw [hw]; exact blk_set HQ3.out 1 (.slice A1 xu.length c1'))
        have HV4 := Aside0.mk ((hne g4 (by have := HGE.out; omega)).trans HQ4.out)
        have HV5 := Aside0.mk ((hne g5 (by have := HGE.out; omega)).trans HQ5.out)
        have HV6 := Aside0.mk ((hne g6 (by have := HGE.out; omega)).trans HQ6.out)
        have HV7 := Aside0.mk ((hne g7 (by have := HGE.out; omega)).trans HQ7.out)
        have HVB := Aside0.mk (show Below w.heap.size w w2 by rw [hw]; exact HQB.out.setCell (show w.heap.size ≤ g3 by have := HGE.out; omega) _)
        have HVS := Lib.hid (show w2.heap.size = w1.heap.size by rw [hw]; exact set_size _ _ _ _)
        have HVE := Lib.hid hne
        clear hw hne
        clear HBQ HBD HDE HDS
        have q1 := (1 : Nat)
        have f1 := (1 : Nat)
        have HRO := Aside0.mk (show Kd.F kPk w2 (fun k => okN (fun k => F k ∧ k < w.heap.size) wd k) A1 xu.length xu from Kd.F_step (Kd.N_F HN1.out) (fun j hj _ => HVE.out j (by have := HGE.out; have := HSO.out; rcases hj with hj | hj <;> omega)))
        have HRC := Lib.hid (Kd.N_reads' HN1.out).2.1
        have HSV := Lib.hid (show wd.heap.size ≤ w2.heap.size by have := HVS.out; have := HB1.out.size; omega)
        clear HN1 HB1 q1 f1 HQ3 HQ4 HQ5 HQ6 HQ7
        refine wp_region_noPanic ?_
        refine wp_region_held_drew (S := fun V => V.heap[g3]? = some (.cells #[.pointer (some ⟨pa, 0, none⟩), .slice A1 xu.length c1', .slice Ao x.out.length co, .slice Ai x.inn.length ci, .int .i64 x.so, .int .i64 x.si, .int .i64 x.tld] 43 (0, 0)) ∧ V.heap[g4]? = some (.cells (sdC y pb Av cv Aq cq Aj cj) 43 (0, 0)) ∧ V.heap[g5]? = some (.cells (opC 4 who kk nn B p.length d) 59 (0, 0))) (by kernel_rfl) (⟨HV3.out, HV4.out, HV5.out⟩) (fun hHeld => ?_)
        obtain ⟨wd, hwd⟩ : ∃ wd, wd = w2.drew := ⟨_, rfl⟩
        rw [← hwd] at hHeld ⊢
        have HBD := Aside0.mk (show Below w2.heap.size w2 wd by rw [hwd]; exact (Below.refl _ _).drew)
        have HDE := Lib.hid (show ∀ k : Nat, wd.heap[k]? = w2.heap[k]? by rw [hwd]; exact fun _ => rfl)
        have HDS := Lib.hid (show wd.heap.size = w2.heap.size by rw [hwd]; rfl)
        clear hwd
        have HZ6 := Aside0.mk ((HDE.out g6).trans HV6.out)
        have HZ7 := Aside0.mk ((HDE.out g7).trans HV7.out)
        have HW4 := Lib.hid (show w.heap.size ≤ wd.heap.size by have := HVB.out.size; have := HDS.out; omega)
        have HBQ := Aside0.mk (show Below w.heap.size w wd from HVB.out.trans (HBD.out.mono HVB.out.size))
        refine wpAnyH_take (i := 0) (v := ?_) rfl (by kernel_rfl) (by kernel_rfl) (by kernel_rfl) (fun _ _ _ h => h) (Or.inl ⟨by rfl, ?_⟩) (by assumption) ?_
        rotate_left 1
        · first | (intro w hSw; obtain ⟨⟨r0, r1, r2, r3, r4, r5, r6⟩, _⟩ := cells7 hSw.1; go_simp; done) | (intro w hSw; obtain ⟨⟨r0, r1, r2, r3, r4, r5, r6⟩, _⟩ := cells7 hSw.1; go_simp; with_reducible rfl)
        try simp only [Act.put, List.getElem_toArray, List.getElem_cons_zero, List.getElem_cons_succ, List.setIfInBounds_toArray, List.set_cons_zero, List.set_cons_succ]
        refine wpAnyH_take (i := 1) (v := ?_) rfl (by kernel_rfl) (by kernel_rfl) (by kernel_rfl) (fun _ _ _ h => h) (Or.inl ⟨by rfl, ?_⟩) (by assumption) ?_
        rotate_left 1
        · first | (intro w hSw; obtain ⟨⟨r0, r1, r2, r3, r4, r5, r6⟩, _⟩ := cells7 hSw.2.1; go_simp; done) | (intro w hSw; obtain ⟨⟨r0, r1, r2, r3, r4, r5, r6⟩, _⟩ := cells7 hSw.2.1; go_simp; with_reducible rfl)
        try simp only [Act.put, List.getElem_toArray, List.getElem_cons_zero, List.getElem_cons_succ, List.setIfInBounds_toArray, List.set_cons_zero, List.set_cons_succ]
        refine wpAnyH_ready (rs := [2]) (by kernel_rfl) (by simp) ?_
        refine AllReadyH.cons rfl (fun K hK => ?_) AllReadyH.nil
        have HSS := Lib.hid hHeld; obtain ⟨⟨r0, r1, r2, r3, r4, r5, r6⟩, s0, s1, s2, s3, s4, s5, s6⟩ := cells7 (show wd.heap[g6]? = some (.cells #[.pointer none, .slice none 0 0, .slice none 0 0, .slice none 0 0, .int .i64 0, .int .i64 0, .int .i64 0] 43 (0, 0)) from HZ6.out); go_simp
        refine hK.out _ _ (by rw [put7_fold]; exact ⟨(put7_ne _ (by have := HGE.out; omega) _ _ _ _ _ _ _).trans hHeld.1, (put7_ne _ (by have := HGE.out; omega) _ _ _ _ _ _ _).trans hHeld.2.1, (put7_ne _ (by have := HGE.out; omega) _ _ _ _ _ _ _).trans hHeld.2.2⟩) (fun hHeld => ?_)
        clear hK K
        try simp only [Act.put, List.getElem_toArray, List.getElem_cons_zero, List.getElem_cons_succ, List.setIfInBounds_toArray, List.set_cons_zero, List.set_cons_succ]
        generalize hw5 : (((((((wd.setCell ⟨g6, 0, none⟩ (.pointer (some ⟨pa, 0, none⟩))).setCell ⟨g6, 1, none⟩ (.slice A1 xu.length c1')).setCell ⟨g6, 2, none⟩ (.slice Ao x.out.length co)).setCell ⟨g6, 3, none⟩ (.slice Ai x.inn.length ci)).setCell ⟨g6, 4, none⟩ (.int .i64 x.so)).setCell ⟨g6, 5, none⟩ (.int .i64 x.si)).setCell ⟨g6, 6, none⟩ (.int .i64 x.tld)) = w5 at hHeld ⊢
        have HW5 := Lib.hid (show w5 = put7 wd g6 (.pointer (some ⟨pa, 0, none⟩)) (.slice A1 xu.length c1') (.slice Ao x.out.length co) (.slice Ai x.inn.length ci) (.int .i64 x.so) (.int .i64 x.si) (.int .i64 x.tld) from hw5.symm)
        have HZ7' := Aside0.mk (show w5.heap[g7]? = some (.cells #[.pointer none, .slice none 0 0, .slice none 0 0, .slice none 0 0, .int .i64 0, .int .i64 0, .int .i64 0] 43 (0, 0)) by rw [HW5.out]; exact (put7_ne _ (by have := HGE.out; omega) _ _ _ _ _ _ _).trans HZ7.out)
        clear hw5
        refine wpAnyH_ready (rs := [3]) (by kernel_rfl) (by simp) ?_
        refine AllReadyH.cons rfl (fun K hK => ?_) AllReadyH.nil
        obtain ⟨⟨r0, r1, r2, r3, r4, r5, r6⟩, s0, s1, s2, s3, s4, s5, s6⟩ := cells7 HZ7'.out; go_simp
        refine hK.out _ _ (by rw [put7_fold]; exact ⟨(put7_ne _ (by have := HGE.out; omega) _ _ _ _ _ _ _).trans hHeld.1, (put7_ne _ (by have := HGE.out; omega) _ _ _ _ _ _ _).trans hHeld.2.1, (put7_ne _ (by have := HGE.out; omega) _ _ _ _ _ _ _).trans hHeld.2.2⟩) (fun hHeld => ?_)
        clear hK K
        try simp only [Act.put, List.getElem_toArray, List.getElem_cons_zero, List.getElem_cons_succ, List.setIfInBounds_toArray, List.set_cons_zero, List.set_cons_succ]
        refine wpAnyH_take (i := 4) (v := ?_) rfl (by kernel_rfl) (by kernel_rfl) (by kernel_rfl) (fun _ _ _ h => h) (Or.inl ⟨by rfl, ?_⟩) (by assumption) ?_
        rotate_left 1
        · first | (intro w hSw; go_simp; done) | (intro w hSw; go_simp; with_reducible rfl)
        try simp only [Act.put, List.getElem_toArray, List.getElem_cons_zero, List.getElem_cons_succ, List.setIfInBounds_toArray, List.set_cons_zero, List.set_cons_succ]
        refine wpAnyH_done (by kernel_rfl) ?_ _
        refine NoPanic.normal ?_
        rw [put7_fold]
        obtain ⟨w9, hw9⟩ : ∃ w9, w9 = put7 w5 g7 (.pointer (some ⟨pb, 0, none⟩)) (.slice Av y.und.length cv) (.slice Aq y.out.length cq) (.slice Aj y.inn.length cj) (.int .i64 y.so) (.int .i64 y.si) (.int .i64 y.tld) := ⟨_, rfl⟩
        rw [← hw9]
        have hp9 : PutTwo w wd w9 g6 g7 := by rw [hw9, HW5.out]; exact put_two (by have := HGE.out; omega) (by have := HGE.out; omega) HW4.out _ _ _ _ _ _ _ _ _ _ _ _ _ _
        have hc6 : w9.heap[g6]? = some (.cells #[.pointer (some ⟨pa, 0, none⟩), .slice A1 xu.length c1', .slice Ao x.out.length co, .slice Ai x.inn.length ci, .int .i64 x.so, .int .i64 x.si, .int .i64 x.tld] 43 (0, 0)) := by rw [hw9, HW5.out]; exact (put7_ne _ (by have := HGE.out; omega) _ _ _ _ _ _ _).trans (put7_at (show wd.heap[g6]? = some (.cells #[.pointer none, .slice none 0 0, .slice none 0 0, .slice none 0 0, .int .i64 0, .int .i64 0, .int .i64 0] 43 (0, 0)) from HZ6.out) _ _ _ _ _ _ _)
        have hc7 : w9.heap[g7]? = some (.cells #[.pointer (some ⟨pb, 0, none⟩), .slice Av y.und.length cv, .slice Aq y.out.length cq, .slice Aj y.inn.length cj, .int .i64 y.so, .int .i64 y.si, .int .i64 y.tld] 43 (0, 0)) := by rw [hw9]; exact put7_at HZ7'.out _ _ _ _ _ _ _
        have HP9 := Aside0.mk hp9
        obtain ⟨⟨r0, r1, r2, r3, r4, r5, r6⟩, _⟩ := cells7 hc6
        obtain ⟨⟨q0, q1, q2, q3, q4, q5, q6⟩, _⟩ := cells7 hc7
        clear hw9 HW5 hp9 hc6 hc7 hHeld
        go_wp2
        (try simp only [Exit.inBlock, Exit.then])
        refine bodyPost_ret (v := .tuple #[.agg #[.pointer (some ⟨pa, 0, none⟩), .slice A1 xu.length c1', .slice Ao x.out.length co, .slice Ai x.inn.length ci, .int .i64 x.so, .int .i64 x.si, .int .i64 x.tld], .agg #[.pointer (some ⟨pb, 0, none⟩), .slice Av y.und.length cv, .slice Aq y.out.length cq, .slice Aj y.inn.length cj, .int .i64 y.so, .int .i64 y.si, .int .i64 y.tld], .bool true]) (by simp [results, Try.results24, go_sem, r0, r1, r2, r3, r4, r5, r6, q0, q1, q2, q3, q4, q5, q6]) rfl ?_
        have hge := HGE.out
        have hgn : ∀ k, w.heap.size ≤ k → ¬ Ka k := fun k hk h => by have := HKA.out k h; omega
        have hM : Moved w wd lo Ka Ka := ⟨HBQ.out.mono HLO.out, ⟨HBQ.out.size, fun k hk _ => HBQ.out.block k hk⟩, fun k hk => .inl hk⟩
        have hx4 := HX.out.step (w1 := wd) (fun k hk hlt => HBQ.out.block k hlt)
        have hy4 := HY.out.step (w1 := wd) (fun k hk hlt => HBQ.out.block k hlt)
        obtain rfl := HXU.out
        have hso := HSO.out
        have hu4 := Kd.F_step (W1 := wd) HRO.out (fun k hk hlt => HBD.out.block k hlt)
        refine step_end (x := { x with und := _ }) (y := y) (Ka' := Ka) (HI.out.moves _ (fun q hq => (List.mem_append.1 hq).elim id (fun h => by rw [List.mem_singleton.1 h]; exact PQM.out)) (by have := HI.out.ua; simp only [List.length_append, List.length_cons, List.length_nil]; omega)) HP9.out (by omega) (by omega) (HT.out.a.stay HBQ.out) (HT.out.b.stay HBQ.out) hM ⟨HRC.out, Kd.F_mono hu4 (fun k hk => ?_), hx4.co, Kd.F_mono hx4.fo (fun k hk => .inl hk), hx4.ci, Kd.F_mono hx4.fi (fun k hk => .inl hk)⟩ (hy4.mono (fun k hk _ => .inl hk)) (hgn g6 (by omega)) (hgn g7 (by omega)) HT.out.ap HFF.out HKB.out HLO.out
        rcases hk with h | h
        · exact .inl h.1
        · exact .inr ⟨by omega, by omega, by omega, hgn k (by omega)⟩
      · skip
        go_simp
        refine hK.out _ _ hHeld (fun hHeld => ?_)
        clear hK K
        try simp only [Act.put, List.getElem_toArray, List.getElem_cons_zero, List.getElem_cons_succ, List.setIfInBounds_toArray, List.set_cons_zero, List.set_cons_succ]
        refine wpAnyH_take (i := 5) (v := ?_) rfl (by kernel_rfl) (by kernel_rfl) (by kernel_rfl) (fun _ _ _ h => h) (Or.inl ⟨by rfl, ?_⟩) (by assumption) ?_
        rotate_left 1
        · first | (intro w hSw; go_simp; done) | (intro w hSw; go_simp; with_reducible rfl)
        try simp only [Act.put, List.getElem_toArray, List.getElem_cons_zero, List.getElem_cons_succ, List.setIfInBounds_toArray, List.set_cons_zero, List.set_cons_succ]
        refine wpAnyH_take (i := 6) (v := ?_) rfl (by kernel_rfl) (by kernel_rfl) (by kernel_rfl) (fun _ _ _ h => h) (Or.inl ⟨by rfl, ?_⟩) (by assumption) ?_
        rotate_left 1
        · first | (intro w hSw; have r1 := hSw.1; have r2 := hSw.2; go_simp; done) | (intro w hSw; have r1 := hSw.1; have r2 := hSw.2; go_simp; with_reducible rfl)
        try simp only [Act.put, List.getElem_toArray, List.getElem_cons_zero, List.getElem_cons_succ, List.setIfInBounds_toArray, List.set_cons_zero, List.set_cons_succ]
        refine wpAnyH_ready (rs := [1]) (by kernel_rfl) (by simp) ?_
        refine AllReadyH.cons rfl (fun K hK => ?_) AllReadyH.nil
        go_simp
        refine hK.out _ _ hHeld (fun hHeld => ?_)
        clear hK K
        try simp only [Act.put, List.getElem_toArray, List.getElem_cons_zero, List.getElem_cons_succ, List.setIfInBounds_toArray, List.set_cons_zero, List.set_cons_succ]
        refine wpAnyH_ready (rs := [7]) (by kernel_rfl) (by simp) ?_
        refine AllReadyH.cons rfl (fun K hK => ?_) AllReadyH.nil
        go_simp
        refine (more_calls wd (fun k => F k ∧ k < w.heap.size) (some ad) cu x.und B1 d1 pq.1 pq.2 (Kd.F_step HX.out.fu (fun k hk _ => HBQ.out.block k hk.2)) (Kd.F_step HF1.out (fun k hk _ => HBD.out.block k (by have := HBW.out.size; omega))) HDD1.out (by have := HUL.out; omega)).mono ?_; rintro e w1 ⟨v1, rfl, hn1, hb1⟩; obtain ⟨xu, hxu⟩ : ∃ xu, xu = x.und ++ [(pq.1, pq.2)] := ⟨_, rfl⟩; rw [← hxu] at hn1; obtain ⟨A1, c1', rfl⟩ := Kd.N_slice hn1; have HXU := Lib.hid hxu; have HN1 := Aside0.mk hn1; have HB1 := Aside0.mk hb1; have HQ3 := Aside0.mk ((hb1.block _ (blk_lt HD3.out)).trans HD3.out); have HQ4 := Aside0.mk ((hb1.block _ (blk_lt HD4.out)).trans HD4.out); have HQ5 := Aside0.mk ((hb1.block _ (blk_lt HD5.out)).trans HD5.out); have HQ6 := Aside0.mk ((hb1.block _ (blk_lt HD6.out)).trans HD6.out); have HQ7 := Aside0.mk ((hb1.block _ (blk_lt HD7.out)).trans HD7.out); have HQB := Aside0.mk (HBQ.out.trans (hb1.mono HBQ.out.size)); clear hn1 hb1 hxu
        have hK7 := (show w1.cell? (ad.add (idx * 2)) = some (.slice B1 pq.1.length d1) ∧ w1.cell? ⟨(ad.add (idx * 2)).block, (ad.add (idx * 2)).off + 1, none⟩ = some (.int .i64 pq.2) from ⟨Below.keeps HB1.out hHeld.1 (World.block_lt_of_cell? _ _ hHeld.1), Below.keeps HB1.out hHeld.2 (World.block_lt_of_cell? _ _ hHeld.2)⟩)
        go_simp
        refine hK.out _ _ hK7 (fun hHeld => ?_)
        clear hK K
        try simp only [Act.put, List.getElem_toArray, List.getElem_cons_zero, List.getElem_cons_succ, List.setIfInBounds_toArray, List.set_cons_zero, List.set_cons_succ]
        refine wpAnyH_take (i := 8) (v := ?_) rfl (by kernel_rfl) (by kernel_rfl) (by kernel_rfl) (fun _ _ _ h => h) (Or.inl ⟨by rfl, ?_⟩) (by assumption) ?_
        rotate_left 1
        · first | (intro w hSw; go_simp; done) | (intro w hSw; go_simp; with_reducible rfl)
        try simp only [Act.put, List.getElem_toArray, List.getElem_cons_zero, List.getElem_cons_succ, List.setIfInBounds_toArray, List.set_cons_zero, List.set_cons_succ]
        refine wpAnyH_ready (rs := [9]) (by kernel_rfl) (by simp) ?_
        refine AllReadyH.cons rfl (fun K hK => ?_) AllReadyH.nil
        have q1 := blk_cell HQ3.out 1
        have f1 := blk_frozen HQ3.out 1
        go_simp
        refine hK.out _ _ (show _ ∧ _ from ⟨(World.cell?_setCell_far _ _ _ _ (show g3 ≠ (ad.add (idx * 2)).block by rw [add_block]; have := HOK.out; have := HGE.out; omega)).trans hHeld.1, (World.cell?_setCell_far _ _ _ _ (show g3 ≠ (ad.add (idx * 2)).block by rw [add_block]; have := HOK.out; have := HGE.out; omega)).trans hHeld.2⟩) (fun hHeld => ?_)
        clear hK K
        try simp only [Act.put, List.getElem_toArray, List.getElem_cons_zero, List.getElem_cons_succ, List.setIfInBounds_toArray, List.set_cons_zero, List.set_cons_succ]
        refine wpAnyH_done (by kernel_rfl) ?_ _
        refine NoPanic.normal ?_
        clear q1 f1
        go_upto_region 32 with (fail)
        obtain ⟨w2, hw⟩ : ∃ w2, w2 = w1.setCell ⟨g3, 1, none⟩ (.slice A1 xu.length c1') := ⟨_, rfl⟩
        rw [← hw]
        have hne : ∀ k : Nat, k ≠ g3 → w2.heap[k]? = w1.heap[k]? := fun k hk => by rw [hw]; exact Below.heap_setCell _ _ _ _ (by exact hk)
        have HV3 := Aside0.mk (show w2.heap[g3]? = some (.cells #[.pointer (some ⟨pa, 0, none⟩), .slice A1 xu.length c1', .slice Ao x.out.length co, .slice Ai x.inn.length ci, .int .i64 x.so, .int .i64 x.si, .int .i64 x.tld] 43 (0, 0)) by rw [hw]; exact blk_set HQ3.out 1 (.slice A1 xu.length c1'))
        have HV4 := Aside0.mk ((hne g4 (by have := HGE.out; omega)).trans HQ4.out)
        have HV5 := Aside0.mk ((hne g5 (by have := HGE.out; omega)).trans HQ5.out)
        have HV6 := Aside0.mk ((hne g6 (by have := HGE.out; omega)).trans HQ6.out)
        have HV7 := Aside0.mk ((hne g7 (by have := HGE.out; omega)).trans HQ7.out)
        have HVB := Aside0.mk (show Below w.heap.size w w2 by rw [hw]; exact HQB.out.setCell (show w.heap.size ≤ g3 by have := HGE.out; omega) _)
        have HVS := Lib.hid (show w2.heap.size = w1.heap.size by rw [hw]; exact set_size _ _ _ _)
        have HVE := Lib.hid hne
        clear hw hne
        clear HBQ HBD HDE HDS
        have q1 := (1 : Nat)
        have f1 := (1 : Nat)
        have HRO := Aside0.mk (show Kd.F kPk w2 (fun k => okN (fun k => F k ∧ k < w.heap.size) wd k) A1 xu.length xu from Kd.F_step (Kd.N_F HN1.out) (fun j hj _ => HVE.out j (by have := HGE.out; have := HSO.out; rcases hj with hj | hj <;> omega)))
        have HRC := Lib.hid (Kd.N_reads' HN1.out).2.1
        have HSV := Lib.hid (show wd.heap.size ≤ w2.heap.size by have := HVS.out; have := HB1.out.size; omega)
        clear HN1 HB1 q1 f1 HQ3 HQ4 HQ5 HQ6 HQ7
        refine wp_region_noPanic ?_
        refine wp_region_held_drew (S := fun V => V.heap[g3]? = some (.cells #[.pointer (some ⟨pa, 0, none⟩), .slice A1 xu.length c1', .slice Ao x.out.length co, .slice Ai x.inn.length ci, .int .i64 x.so, .int .i64 x.si, .int .i64 x.tld] 43 (0, 0)) ∧ V.heap[g4]? = some (.cells (sdC y pb Av cv Aq cq Aj cj) 43 (0, 0)) ∧ V.heap[g5]? = some (.cells (opC 4 who kk nn B p.length d) 59 (0, 0))) (by kernel_rfl) (⟨HV3.out, HV4.out, HV5.out⟩) (fun hHeld => ?_)
        obtain ⟨wd, hwd⟩ : ∃ wd, wd = w2.drew := ⟨_, rfl⟩
        rw [← hwd] at hHeld ⊢
        have HBD := Aside0.mk (show Below w2.heap.size w2 wd by rw [hwd]; exact (Below.refl _ _).drew)
        have HDE := Lib.hid (show ∀ k : Nat, wd.heap[k]? = w2.heap[k]? by rw [hwd]; exact fun _ => rfl)
        have HDS := Lib.hid (show wd.heap.size = w2.heap.size by rw [hwd]; rfl)
        clear hwd
        have HZ6 := Aside0.mk ((HDE.out g6).trans HV6.out)
        have HZ7 := Aside0.mk ((HDE.out g7).trans HV7.out)
        have HW4 := Lib.hid (show w.heap.size ≤ wd.heap.size by have := HVB.out.size; have := HDS.out; omega)
        have HBQ := Aside0.mk (show Below w.heap.size w wd from HVB.out.trans (HBD.out.mono HVB.out.size))
        refine wpAnyH_take (i := 0) (v := ?_) rfl (by kernel_rfl) (by kernel_rfl) (by kernel_rfl) (fun _ _ _ h => h) (Or.inl ⟨by rfl, ?_⟩) (by assumption) ?_
        rotate_left 1
        · first | (intro w hSw; obtain ⟨⟨r0, r1, r2, r3, r4, r5, r6⟩, _⟩ := cells7 hSw.1; go_simp; done) | (intro w hSw; obtain ⟨⟨r0, r1, r2, r3, r4, r5, r6⟩, _⟩ := cells7 hSw.1; go_simp; with_reducible rfl)
        try simp only [Act.put, List.getElem_toArray, List.getElem_cons_zero, List.getElem_cons_succ, List.setIfInBounds_toArray, List.set_cons_zero, List.set_cons_succ]
        refine wpAnyH_take (i := 1) (v := ?_) rfl (by kernel_rfl) (by kernel_rfl) (by kernel_rfl) (fun _ _ _ h => h) (Or.inl ⟨by rfl, ?_⟩) (by assumption) ?_
        rotate_left 1
        · first | (intro w hSw; obtain ⟨⟨r0, r1, r2, r3, r4, r5, r6⟩, _⟩ := cells7 hSw.2.1; go_simp; done) | (intro w hSw; obtain ⟨⟨r0, r1, r2, r3, r4, r5, r6⟩, _⟩ := cells7 hSw.2.1; go_simp; with_reducible rfl)
        try simp only [Act.put, List.getElem_toArray, List.getElem_cons_zero, List.getElem_cons_succ, List.setIfInBounds_toArray, List.set_cons_zero, List.set_cons_succ]
        refine wpAnyH_ready (rs := [2]) (by kernel_rfl) (by simp) ?_
        refine AllReadyH.cons rfl (fun K hK => ?_) AllReadyH.nil
        have HSS := Lib.hid hHeld; obtain ⟨⟨r0, r1, r2, r3, r4, r5, r6⟩, s0, s1, s2, s3, s4, s5, s6⟩ := cells7 (show wd.heap[g6]? = some (.cells #[.pointer none, .slice none 0 0, .slice none 0 0, .slice none 0 0, .int .i64 0, .int .i64 0, .int .i64 0] 43 (0, 0)) from HZ6.out); go_simp
        refine hK.out _ _ (by rw [put7_fold]; exact ⟨(put7_ne _ (by have := HGE.out; omega) _ _ _ _ _ _ _).trans hHeld.1, (put7_ne _ (by have := HGE.out; omega) _ _ _ _ _ _ _).trans hHeld.2.1, (put7_ne _ (by have := HGE.out; omega) _ _ _ _ _ _ _).trans hHeld.2.2⟩) (fun hHeld => ?_)
        clear hK K
        try simp only [Act.put, List.getElem_toArray, List.getElem_cons_zero, List.getElem_cons_succ, List.setIfInBounds_toArray, List.set_cons_zero, List.set_cons_succ]
        generalize hw5 : (((((((wd.setCell ⟨g6, 0, none⟩ (.pointer (some ⟨pa, 0, none⟩))).setCell ⟨g6, 1, none⟩ (.slice A1 xu.length c1')).setCell ⟨g6, 2, none⟩ (.slice Ao x.out.length co)).setCell ⟨g6, 3, none⟩ (.slice Ai x.inn.length ci)).setCell ⟨g6, 4, none⟩ (.int .i64 x.so)).setCell ⟨g6, 5, none⟩ (.int .i64 x.si)).setCell ⟨g6, 6, none⟩ (.int .i64 x.tld)) = w5 at hHeld ⊢
        have HW5 := Lib.hid (show w5 = put7 wd g6 (.pointer (some ⟨pa, 0, none⟩)) (.slice A1 xu.length c1') (.slice Ao x.out.length co) (.slice Ai x.inn.length ci) (.int .i64 x.so) (.int .i64 x.si) (.int .i64 x.tld) from hw5.symm)
        have HZ7' := Aside0.mk (show w5.heap[g7]? = some (.cells #[.pointer none, .slice none 0 0, .slice none 0 0, .slice none 0 0, .int .i64 0, .int .i64 0, .int .i64 0] 43 (0, 0)) by rw [HW5.out]; exact (put7_ne _ (by have := HGE.out; omega) _ _ _ _ _ _ _).trans HZ7.out)
        clear hw5
        refine wpAnyH_ready (rs := [3]) (by kernel_rfl) (by simp) ?_
        refine AllReadyH.cons rfl (fun K hK => ?_) AllReadyH.nil
        obtain ⟨⟨r0, r1, r2, r3, r4, r5, r6⟩, s0, s1, s2, s3, s4, s5, s6⟩ := cells7 HZ7'.out; go_simp
        refine hK.out _ _ (by rw [put7_fold]; exact ⟨(put7_ne _ (by have := HGE.out; omega) _ _ _ _ _ _ _).trans hHeld.1, (put7_ne _ (by have := HGE.out; omega) _ _ _ _ _ _ _).trans hHeld.2.1, (put7_ne _ (by have := HGE.out; omega) _ _ _ _ _ _ _).trans hHeld.2.2⟩) (fun hHeld => ?_)
        clear hK K
        try simp only [Act.put, List.getElem_toArray, List.getElem_cons_zero, List.getElem_cons_succ, List.setIfInBounds_toArray, List.set_cons_zero, List.set_cons_succ]
        refine wpAnyH_take (i := 4) (v := ?_) rfl (by kernel_rfl) (by kernel_rfl) (by kernel_rfl) (fun _ _ _ h => h) (Or.inl ⟨by rfl, ?_⟩) (by assumption) ?_
        rotate_left 1
        · first | (intro w hSw; go_simp; done) | (intro w hSw; go_simp; with_reducible rfl)
        try simp only [Act.put, List.getElem_toArray, List.getElem_cons_zero, List.getElem_cons_succ, List.setIfInBounds_toArray, List.set_cons_zero, List.set_cons_succ]
        refine wpAnyH_done (by kernel_rfl) ?_ _
        refine NoPanic.normal ?_
        rw [put7_fold]
        obtain ⟨w9, hw9⟩ : ∃ w9, w9 = put7 w5 g7 (.pointer (some ⟨pb, 0, none⟩)) (.slice Av y.und.length cv) (.slice Aq y.out.length cq) (.slice Aj y.inn.length cj) (.int .i64 y.so) (.int .i64 y.si) (.int .i64 y.tld) := ⟨_, rfl⟩
        rw [← hw9]
        have hp9 : PutTwo w wd w9 g6 g7 := by rw [hw9, HW5.out]; exact put_two (by have := HGE.out; omega) (by have := HGE.out; omega) HW4.out _ _ _ _ _ _ _ _ _ _ _ _ _ _
        have hc6 : w9.heap[g6]? = some (.cells #[.pointer (some ⟨pa, 0, none⟩), .slice A1 xu.length c1', .slice Ao x.out.length co, .slice Ai x.inn.length ci, .int .i64 x.so, .int .i64 x.si, .int .i64 x.tld] 43 (0, 0)) := by rw [hw9, HW5.out]; exact (put7_ne _ (by have := HGE.out; omega) _ _ _ _ _ _ _).trans (put7_at (show wd.heap[g6]? = some (.cells #[.pointer none, .slice none 0 0, .slice none 0 0, .slice none 0 0, .int .i64 0, .int .i64 0, .int .i64 0] 43 (0, 0)) from HZ6.out) _ _ _ _ _ _ _)
        have hc7 : w9.heap[g7]? = some (.cells #[.pointer (some ⟨pb, 0, none⟩), .slice Av y.und.length cv, .slice Aq y.out.length cq, .slice Aj y.inn.length cj, .int .i64 y.so, .int .i64 y.si, .int .i64 y.tld] 43 (0, 0)) := by rw [hw9]; exact put7_at HZ7'.out _ _ _ _ _ _ _
        have HP9 := Aside0.mk hp9
        obtain ⟨⟨r0, r1, r2, r3, r4, r5, r6⟩, _⟩ := cells7 hc6
        obtain ⟨⟨q0, q1, q2, q3, q4, q5, q6⟩, _⟩ := cells7 hc7
        clear hw9 HW5 hp9 hc6 hc7 hHeld
        go_wp2
        (try simp only [Exit.inBlock, Exit.then])
        refine bodyPost_ret (v := .tuple #[.agg #[.pointer (some ⟨pa, 0, none⟩), .slice A1 xu.length c1', .slice Ao x.out.length co, .slice Ai x.inn.length ci, .int .i64 x.so, .int .i64 x.si, .int .i64 x.tld], .agg #[.pointer (some ⟨pb, 0, none⟩), .slice Av y.und.length cv, .slice Aq y.out.length cq, .slice Aj y.inn.length cj, .int .i64 y.so, .int .i64 y.si, .int .i64 y.tld], .bool true]) (by simp [results, Try.results24, go_sem, r0, r1, r2, r3, r4, r5, r6, q0, q1, q2, q3, q4, q5, q6]) rfl ?_
        have hge := HGE.out
        have hgn : ∀ k, w.heap.size ≤ k → ¬ Ka k := fun k hk h => by have := HKA.out k h; omega
        have hM : Moved w wd lo Ka Ka := ⟨HBQ.out.mono HLO.out, ⟨HBQ.out.size, fun k hk _ => HBQ.out.block k hk⟩, fun k hk => .inl hk⟩
        have hx4 := HX.out.step (w1 := wd) (fun k hk hlt => HBQ.out.block k hlt)
        have hy4 := HY.out.step (w1 := wd) (fun k hk hlt => HBQ.out.block k hlt)
        obtain rfl := HXU.out
        have hso := HSO.out
        have hu4 := Kd.F_step (W1 := wd) HRO.out (fun k hk hlt => HBD.out.block k hlt)
        refine step_end (x := { x with und := _ }) (y := y) (Ka' := Ka) (HI.out.moves _ (fun q hq => (List.mem_append.1 hq).elim id (fun h => by rw [List.mem_singleton.1 h]; exact PQM.out)) (by have := HI.out.ua; simp only [List.length_append, List.length_cons, List.length_nil]; omega)) HP9.out (by omega) (by omega) (HT.out.a.stay HBQ.out) (HT.out.b.stay HBQ.out) hM ⟨HRC.out, Kd.F_mono hu4 (fun k hk => ?_), hx4.co, Kd.F_mono hx4.fo (fun k hk => .inl hk), hx4.ci, Kd.F_mono hx4.fi (fun k hk => .inl hk)⟩ (hy4.mono (fun k hk _ => .inl hk)) (hgn g6 (by omega)) (hgn g7 (by omega)) HT.out.ap HFF.out HKB.out HLO.out
        rcases hk with h | h
        · exact .inl h.1
        · exact .inr ⟨by omega, by omega, by omega, hgn k (by omega)⟩
    have e4 : (kind == 4) = false := beq_eq_false_iff_ne.2 hk4
    go_upto_region 32 with (fail)
    refine wp_region_noPanic ?_
    refine wp_region_held_drew (S := fun V => V.heap[g3]? = some (.cells (sdC x pa Au cu Ao co Ai ci) 43 (0, 0)) ∧ V.heap[g4]? = some (.cells (sdC y pb Av cv Aq cq Aj cj) 43 (0, 0)) ∧ V.heap[g5]? = some (.cells (opC kind who kk nn B p.length d) 59 (0, 0))) (by kernel_rfl) (⟨HG3.out, HG4.out, HG5.out⟩) (fun hHeld => ?_)
    obtain ⟨wd, hwd⟩ : ∃ wd, wd = wc.drew := ⟨_, rfl⟩
    rw [← hwd] at hHeld ⊢
    have HBD := Aside0.mk (show Below wc.heap.size wc wd by rw [hwd]; exact (Below.refl _ _).drew)
    have HDE := Lib.hid (show ∀ k : Nat, wd.heap[k]? = wc.heap[k]? by rw [hwd]; exact fun _ => rfl)
    have HDS := Lib.hid (show wd.heap.size = wc.heap.size by rw [hwd]; rfl)
    clear hwd
    have HZ6 := Aside0.mk ((HDE.out g6).trans HG6.out)
    have HZ7 := Aside0.mk ((HDE.out g7).trans HG7.out)
    have HW4 := Lib.hid (show w.heap.size ≤ wd.heap.size by have := HBW.out.size; have := HDS.out; omega)
    have HBQ := Aside0.mk (show Below w.heap.size w wd from HBW.out.trans (HBD.out.mono HBW.out.size))
    refine wpAnyH_take (i := 0) (v := ?_) rfl (by kernel_rfl) (by kernel_rfl) (by kernel_rfl) (fun _ _ _ h => h) (Or.inl ⟨by rfl, ?_⟩) (by assumption) ?_
    rotate_left 1
    · first | (intro w hSw; obtain ⟨⟨r0, r1, r2, r3, r4, r5, r6⟩, _⟩ := cells7 hSw.1; go_simp; done) | (intro w hSw; obtain ⟨⟨r0, r1, r2, r3, r4, r5, r6⟩, _⟩ := cells7 hSw.1; go_simp; with_reducible rfl)
    try simp only [Act.put, List.getElem_toArray, List.getElem_cons_zero, List.getElem_cons_succ, List.setIfInBounds_toArray, List.set_cons_zero, List.set_cons_succ]
    refine wpAnyH_take (i := 1) (v := ?_) rfl (by kernel_rfl) (by kernel_rfl) (by kernel_rfl) (fun _ _ _ h => h) (Or.inl ⟨by rfl, ?_⟩) (by assumption) ?_
    rotate_left 1
    · first | (intro w hSw; obtain ⟨⟨r0, r1, r2, r3, r4, r5, r6⟩, _⟩ := cells7 hSw.2.1; go_simp; done) | (intro w hSw; obtain ⟨⟨r0, r1, r2, r3, r4, r5, r6⟩, _⟩ := cells7 hSw.2.1; go_simp; with_reducible rfl)
    try simp only [Act.put, List.getElem_toArray, List.getElem_cons_zero, List.getElem_cons_succ, List.setIfInBounds_toArray, List.set_cons_zero, List.set_cons_succ]
    refine wpAnyH_ready (rs := [2]) (by kernel_rfl) (by simp) ?_
    refine AllReadyH.cons rfl (fun K hK => ?_) AllReadyH.nil
    have HSS := Lib.hid hHeld; obtain ⟨⟨r0, r1, r2, r3, r4, r5, r6⟩, s0, s1, s2, s3, s4, s5, s6⟩ := cells7 (show wd.heap[g6]? = some (.cells #[.pointer none, .slice none 0 0, .slice none 0 0, .slice none 0 0, .int .i64 0, .int .i64 0, .int .i64 0] 43 (0, 0)) from HZ6.out); go_simp
    refine hK.out _ _ (by rw [put7_fold]; exact ⟨(put7_ne _ (by have := HGE.out; omega) _ _ _ _ _ _ _).trans hHeld.1, (put7_ne _ (by have := HGE.out; omega) _ _ _ _ _ _ _).trans hHeld.2.1, (put7_ne _ (by have := HGE.out; omega) _ _ _ _ _ _ _).trans hHeld.2.2⟩) (fun hHeld => ?_)
    clear hK K
    try simp only [Act.put, List.getElem_toArray, List.getElem_cons_zero, List.getElem_cons_succ, List.setIfInBounds_toArray, List.set_cons_zero, List.set_cons_succ]
    generalize hw5 : (((((((wd.setCell ⟨g6, 0, none⟩ (.pointer (some ⟨pa, 0, none⟩))).setCell ⟨g6, 1, none⟩ (.slice Au x.und.length cu)).setCell ⟨g6, 2, none⟩ (.slice Ao x.out.length co)).setCell ⟨g6, 3, none⟩ (.slice Ai x.inn.length ci)).setCell ⟨g6, 4, none⟩ (.int .i64 x.so)).setCell ⟨g6, 5, none⟩ (.int .i64 x.si)).setCell ⟨g6, 6, none⟩ (.int .i64 x.tld)) = w5 at hHeld ⊢
    have HW5 := Lib.hid (show w5 = put7 wd g6 (.pointer (some ⟨pa, 0, none⟩)) (.slice Au x.und.length cu) (.slice Ao x.out.length co) (.slice Ai x.inn.length ci) (.int .i64 x.so) (.int .i64 x.si) (.int .i64 x.tld) from hw5.symm)
    have HZ7' := Aside0.mk (show w5.heap[g7]? = some (.cells #[.pointer none, .slice none 0 0, .slice none 0 0, .slice none 0 0, .int .i64 0, .int .i64 0, .int .i64 0] 43 (0, 0)) by rw [HW5.out]; exact (put7_ne _ (by have := HGE.out; omega) _ _ _ _ _ _ _).trans HZ7.out)
    clear hw5
    refine wpAnyH_ready (rs := [3]) (by kernel_rfl) (by simp) ?_
    refine AllReadyH.cons rfl (fun K hK => ?_) AllReadyH.nil
    obtain ⟨⟨r0, r1, r2, r3, r4, r5, r6⟩, s0, s1, s2, s3, s4, s5, s6⟩ := cells7 HZ7'.out; go_simp
    refine hK.out _ _ (by rw [put7_fold]; exact ⟨(put7_ne _ (by have := HGE.out; omega) _ _ _ _ _ _ _).trans hHeld.1, (put7_ne _ (by have := HGE.out; omega) _ _ _ _ _ _ _).trans hHeld.2.1, (put7_ne _ (by have := HGE.out; omega) _ _ _ _ _ _ _).trans hHeld.2.2⟩) (fun hHeld => ?_)
    clear hK K
    try simp only [Act.put, List.getElem_toArray, List.getElem_cons_zero, List.getElem_cons_succ, List.setIfInBounds_toArray, List.set_cons_zero, List.set_cons_succ]
    refine wpAnyH_take (i := 4) (v := ?_) rfl (by kernel_rfl) (by kernel_rfl) (by kernel_rfl) (fun _ _ _ h => h) (Or.inl ⟨by rfl, ?_⟩) (by assumption) ?_
    rotate_left 1
    · first | (intro w hSw; go_simp; done) | (intro w hSw; go_simp; with_reducible rfl)
    try simp only [Act.put, List.getElem_toArray, List.getElem_cons_zero, List.getElem_cons_succ, List.setIfInBounds_toArray, List.set_cons_zero, List.set_cons_succ]
    refine wpAnyH_done (by kernel_rfl) ?_ _
    refine NoPanic.normal ?_
    rw [put7_fold]
    obtain ⟨w9, hw9⟩ : ∃ w9, w9 = put7 w5 g7 (.pointer (some ⟨pb, 0, none⟩)) (.slice Av y.und.length cv) (.slice Aq y.out.length cq) (.slice Aj y.inn.length cj) (.int .i64 y.so) (.int .i64 y.si) (.int .i64 y.tld) := ⟨_, rfl⟩
    rw [← hw9]
    have hp9 : PutTwo w wd w9 g6 g7 := by rw [hw9, HW5.out]; exact put_two (by have := HGE.out; omega) (by have := HGE.out; omega) HW4.out _ _ _ _ _ _ _ _ _ _ _ _ _ _
    have hc6 : w9.heap[g6]? = some (.cells #[.pointer (some ⟨pa, 0, none⟩), .slice Au x.und.length cu, .slice Ao x.out.length co, .slice Ai x.inn.length ci, .int .i64 x.so, .int .i64 x.si, .int .i64 x.tld] 43 (0, 0)) := by rw [hw9, HW5.out]; exact (put7_ne _ (by have := HGE.out; omega) _ _ _ _ _ _ _).trans (put7_at (show wd.heap[g6]? = some (.cells #[.pointer none, .slice none 0 0, .slice none 0 0, .slice none 0 0, .int .i64 0, .int .i64 0, .int .i64 0] 43 (0, 0)) from HZ6.out) _ _ _ _ _ _ _)
    have hc7 : w9.heap[g7]? = some (.cells #[.pointer (some ⟨pb, 0, none⟩), .slice Av y.und.length cv, .slice Aq y.out.length cq, .slice Aj y.inn.length cj, .int .i64 y.so, .int .i64 y.si, .int .i64 y.tld] 43 (0, 0)) := by rw [hw9]; exact put7_at HZ7'.out _ _ _ _ _ _ _
    have HP9 := Aside0.mk hp9
    obtain ⟨⟨r0, r1, r2, r3, r4, r5, r6⟩, _⟩ := cells7 hc6
    obtain ⟨⟨q0, q1, q2, q3, q4, q5, q6⟩, _⟩ := cells7 hc7
    clear hw9 HW5 hp9 hc6 hc7 hHeld
    go_wp2
    (try simp only [Exit.inBlock, Exit.then])
    refine bodyPost_ret (v := .tuple #[.agg #[.pointer (some ⟨pa, 0, none⟩), .slice Au x.und.length cu, .slice Ao x.out.length co, .slice Ai x.inn.length ci, .int .i64 x.so, .int .i64 x.si, .int .i64 x.tld], .agg #[.pointer (some ⟨pb, 0, none⟩), .slice Av y.und.length cv, .slice Aq y.out.length cq, .slice Aj y.inn.length cj, .int .i64 y.so, .int .i64 y.si, .int .i64 y.tld], .bool true]) (by simp [results, Try.results24, go_sem, r0, r1, r2, r3, r4, r5, r6, q0, q1, q2, q3, q4, q5, q6]) rfl ?_
    have hge := HGE.out
    have hgn : ∀ k, w.heap.size ≤ k → ¬ Ka k := fun k hk h => by have := HKA.out k h; omega
    have hM : Moved w wd lo Ka Ka := ⟨HBQ.out.mono HLO.out, ⟨HBQ.out.size, fun k hk _ => HBQ.out.block k hk⟩, fun k hk => .inl hk⟩
    have hx4 := HX.out.step (w1 := wd) (fun k hk hlt => HBQ.out.block k hlt)
    have hy4 := HY.out.step (w1 := wd) (fun k hk hlt => HBQ.out.block k hlt)
    exact step_end (x := x) (y := y) (Ka' := Ka) (HI.out.more (Nat.le_succ _)) HP9.out (by omega) (by omega) (HT.out.a.stay HBQ.out) (HT.out.b.stay HBQ.out) hM (hx4.mono (fun k hk _ => .inl hk)) (hy4.mono (fun k hk _ => .inl hk)) (hgn g6 (by omega)) (hgn g7 (by omega)) HT.out.ap HFF.out HKB.out HLO.out

end Go.Proofs.Ytcdhjkkdenhmcaa
