/- link: receive. -/
import Derived.Test.YtcdhjkkdenhmcaaLkS
namespace Go.Proofs.Ytcdhjkkdenhmcaa
open Go.RowKit Go.Proofs.YtcdhjkkdenhmcaaW.PrintWords Go.Proofs.YtcdhjkkdenhmcaaW.PrintLast Go.Proofs.YtcdhjkkdenhmcaaW.PrintMore
attribute [local go_sem] max2_int min2_int max_two min_two
set_option linter.unusedVariables false
set_option linter.unusedSimpArgs false
set_option maxRecDepth 100000 in
set_option maxHeartbeats 4000000 in
theorem receive_calls (w : World) (lo : Nat) (Ka F : Nat → Prop) (W : Nat) (x y : Sd) (pa pb : Nat) (Au Ao Ai Av Aq Aj : Option Addr) (cu co ci cv cq cj : Nat) (B : Option Addr) (d : Nat) (q : List UInt8) (a b : Nat) (ms : List (List UInt8)) (most : Int)
    (hF : EnFine (enOf W x)) (hE : IsEnd w lo Ka (enOf W x) pa) (hx : SideAt w F x Au cu Ao co Ai ci) (hy : SideAt w F y Av cv Aq cq Aj cj)
    (hp : q = putAll (uintsF a ++ uintsF b) ms) (hB : Kd.F kB w F B q.length q) (hd : q.length ≤ d) (ha : a ≤ x.so) (hb : b ≤ 100000) (hs : ∀ m ∈ ms, m.length ≤ 1000) (hl : ms.length ≤ 100)
    (hb1 : (x.recv a b most ms).inn = y.out.take (x.recv a b most ms).inn.length) (hb2 : (x.recv a b most ms).inn.length ≤ y.so) (hy1 : y.so ≤ y.out.length) (hy2 : y.out.length ≤ 90000) (hfa : ∀ k, F k → ¬ Ka k) :
    Calls Try.prog 26 #[.agg (sdC x pa Au cu Ao co Ai ci), .agg (sdC y pb Av cv Aq cq Aj cj), .agg #[.slice B q.length d, .int .i64 a], .int .i64 most] w fun e w' => ∃ Ai' ci', e = .returned (.tuple #[.agg (sdC (x.recv a b most ms) pa Au cu Ao co Ai' ci'), .bool true]) ∧
      IsEnd w' lo Ka (enOf W (x.recv a b most ms)) pa ∧ Moved w w' lo Ka Ka ∧ SideAt w' (okN F w) (x.recv a b most ms) Au cu Ao co Ai' ci' := by
  have HE := Aside0.mk hE
  have HF := Lib.hid hF
  have HX := Aside0.mk hx.bound
  have HY := Aside0.mk hy.bound
  have HP := Lib.hid hp
  have HQ := Aside0.mk (Kd.F_bound hB)
  have HD := Lib.hid hd
  have HA := Lib.hid ha
  have HB := Lib.hid hb
  have HS := Lib.hid hs
  have HL := Lib.hid hl
  have HB1 := Lib.hid hb1
  have HB2 := Lib.hid hb2
  have HY1 := Lib.hid hy1
  have HY2 := Lib.hid hy2
  have HFA := Lib.hid hfa
  have HQL := Lib.hid (show q.length ≤ 200000 by have := putAll_short (uintsF a ++ uintsF b) ms hs; rw [← hp, List.length_append] at this; have h1 := (uintsF_len a (by have := hF.ol; have := hF.so1; have e1 : (enOf W x).so = x.so := rfl; omega)).2; have h2 := (uintsF_len b (by omega)).2; omega)
  have HLO := Lib.hid (show lo ≤ w.heap.size by obtain ⟨_, _, z⟩ := hE; exact z.low)
  have HKB := Lib.hid (fun k hk => (hE.kb k hk).2 : ∀ k, Ka k → k < w.heap.size)
  have ql : (q.length : Int) ≤ 200000 := by have := HQL.out; omega
  clear hF hE hx hy hp hB hd ha hb hs hl hb1 hb2 hy1 hy2 hfa
  go_enter Try.func26, Try.ntmps26
  go_upto_region 1 with (fail)
  obtain ⟨w0, hw0⟩ : ∃ w0, w0 = (((w.alloc (.cells (sdC x pa Au cu Ao co Ai ci) 43)).alloc (.cells (sdC y pb Av cv Aq cq Aj cj) 43)).alloc (.cells #[.slice B q.length d, .int .i64 a] 65)).alloc (.cells zeroC 43) := ⟨_, rfl⟩
  have hw0' := hw0
  simp only [zeroC] at hw0'
  rw [← hw0']
  have HB0 := Aside0.mk (show Below w.heap.size w w0 by rw [hw0]; exact below_alloc (below_alloc (below_alloc (below_alloc (Below.refl _ _) _) _) _) _)
  obtain ⟨hsz, hg4, hg5, hg6, hg8⟩ := four w (.cells (sdC x pa Au cu Ao co Ai ci) 43) (.cells (sdC y pb Av cv Aq cq Aj cj) 43) (.cells #[.slice B q.length d, .int .i64 a] 65) (.cells zeroC 43)
  rw [← hw0] at hsz hg4 hg5 hg6 hg8
  obtain ⟨g4, e4⟩ : ∃ g4, g4 = w.heap.size := ⟨_, rfl⟩
  obtain ⟨g5, e5⟩ : ∃ g5, g5 = w.heap.size + 1 := ⟨_, rfl⟩
  obtain ⟨g6, e6⟩ : ∃ g6, g6 = w.heap.size + 1 + 1 := ⟨_, rfl⟩
  obtain ⟨g8, e8⟩ : ∃ g8, g8 = w.heap.size + 1 + 1 + 1 := ⟨_, rfl⟩
  rw [← e8] at hg8 ⊢
  rw [← e6] at hg6 ⊢
  rw [← e5] at hg5 ⊢
  rw [← e4] at hg4 ⊢
  have HS0 := Lib.hid hsz
  have HG4 := Aside0.mk hg4
  have HG5 := Aside0.mk hg5
  have HG6 := Aside0.mk hg6
  have HG8 := Aside0.mk hg8
  have HGE := Lib.hid (show g4 = w.heap.size ∧ g5 = w.heap.size + 1 ∧ g6 = w.heap.size + 1 + 1 ∧ g8 = w.heap.size + 1 + 1 + 1 from ⟨e4, e5, e6, e8⟩)
  clear hw0 hw0' hsz hg4 hg5 hg6 hg8 e4 e5 e6 e8
  -- REGION 1
  refine wp_region_noPanic ?_
  refine wp_region_held_drew (S := fun W => W.heap[g4]? = some (.cells (sdC x pa Au cu Ao co Ai ci) 43 (0, 0)) ∧ W.heap[g6]? = some (.cells #[.slice B q.length d, .int .i64 a] 65 (0, 0))) (by kernel_rfl) (⟨HG4.out, HG6.out⟩) (fun hHeld => ?_)
  obtain ⟨wd, hwd⟩ : ∃ wd, wd = w0.drew := ⟨_, rfl⟩
  rw [← hwd] at hHeld ⊢
  have HBD := Aside0.mk (show Below w.heap.size w wd by rw [hwd]; exact HB0.out.drew)
  have HSD := Lib.hid (show wd.heap.size = w0.heap.size by rw [hwd]; rfl)
  have HBD0 := Aside0.mk (show Below w0.heap.size w0 wd by rw [hwd]; exact (Below.refl _ _).drew)
  clear hwd
  refine wpAnyH_take (i := 0) (v := ?_) rfl (by kernel_rfl) (by kernel_rfl) (by kernel_rfl) (fun _ _ _ h => h) (Or.inl ⟨by rfl, ?_⟩) (by assumption) ?_
  rotate_left 1
  · first | (intro w hSw; go_simp; done) | (intro w hSw; go_simp; with_reducible rfl)
  try simp only [Act.put, List.getElem_toArray, List.getElem_cons_zero, List.getElem_cons_succ, List.setIfInBounds_toArray, List.set_cons_zero, List.set_cons_succ]
  refine wpAnyH_take (i := 1) (v := ?_) rfl (by kernel_rfl) (by kernel_rfl) (by kernel_rfl) (fun _ _ _ h => h) (Or.inl ⟨by rfl, ?_⟩) (by assumption) ?_
  rotate_left 1
  · first | (intro w hSw; have r0 := blk_cell hSw.1 0; go_simp; done) | (intro w hSw; have r0 := blk_cell hSw.1 0; go_simp; with_reducible rfl)
  try simp only [Act.put, List.getElem_toArray, List.getElem_cons_zero, List.getElem_cons_succ, List.setIfInBounds_toArray, List.set_cons_zero, List.set_cons_succ]
  refine wpAnyH_take (i := 2) (v := ?_) rfl (by kernel_rfl) (by kernel_rfl) (by kernel_rfl) (fun _ _ _ h => h) (Or.inl ⟨by rfl, ?_⟩) (by assumption) ?_
  rotate_left 1
  · first | (intro w hSw; go_simp; done) | (intro w hSw; go_simp; with_reducible rfl)
  try simp only [Act.put, List.getElem_toArray, List.getElem_cons_zero, List.getElem_cons_succ, List.setIfInBounds_toArray, List.set_cons_zero, List.set_cons_succ]
  refine wpAnyH_take (i := 3) (v := ?_) rfl (by kernel_rfl) (by kernel_rfl) (by kernel_rfl) (fun _ _ _ h => h) (Or.inl ⟨by rfl, ?_⟩) (by assumption) ?_
  rotate_left 1
  · first | (intro w hSw; have r0 := blk_cell hSw.2 0; go_simp; done) | (intro w hSw; have r0 := blk_cell hSw.2 0; go_simp; with_reducible rfl)
  try simp only [Act.put, List.getElem_toArray, List.getElem_cons_zero, List.getElem_cons_succ, List.setIfInBounds_toArray, List.set_cons_zero, List.set_cons_succ]
  refine wpAnyH_take (i := 5) (v := ?_) rfl (by kernel_rfl) (by kernel_rfl) (by kernel_rfl) (fun _ _ _ h => h) (Or.inl ⟨by rfl, ?_⟩) (by assumption) ?_
  rotate_left 1
  · first | (intro w hSw; go_simp; done) | (intro w hSw; go_simp; with_reducible rfl)
  try simp only [Act.put, List.getElem_toArray, List.getElem_cons_zero, List.getElem_cons_succ, List.setIfInBounds_toArray, List.set_cons_zero, List.set_cons_succ]
  refine wpAnyH_ready (rs := [4]) (by kernel_rfl) (by simp) ?_
  refine AllReadyH.cons rfl (fun K hK => ?_) AllReadyH.nil
  go_simp
  refine (twin_calls wd _ _ q (Kd.F_now (Kd.F_step HQ.out (fun k hk _ => HBD.out.block k hk.2))) (by have := HQL.out; omega)).mono ?_; intro e w1 h1; obtain ⟨A1, c1, rfl, hcl, hR, hC, hb⟩ := h1.open_; have HR1 := Aside0.mk hR; have HCC1 := Lib.hid hcl; have HB1 := Aside0.mk hb; have hK1 := (show w1.heap[g4]? = some (.cells (sdC x pa Au cu Ao co Ai ci) 43 (0, 0)) ∧ w1.heap[g6]? = some (.cells #[.slice B q.length d, .int .i64 a] 65 (0, 0)) from ⟨(hb.block _ (blk_lt hHeld.1)).trans hHeld.1, (hb.block _ (blk_lt hHeld.2)).trans hHeld.2⟩); clear h1 hR hC hb hcl
  go_simp
  refine hK.out _ _ hK1 (fun hHeld => ?_)
  clear hK K
  try simp only [Act.put, List.getElem_toArray, List.getElem_cons_zero, List.getElem_cons_succ, List.setIfInBounds_toArray, List.set_cons_zero, List.set_cons_succ]
  refine wpAnyH_ready (rs := [6]) (by kernel_rfl) (by simp) ?_
  refine AllReadyH.cons rfl (fun K hK => ?_) AllReadyH.nil
  go_simp
  have HE1 := Aside0.mk (HE.out.stay (below_then HBD.out HBD.out.size HB1.out)); refine (linkReceive_calls w1 lo Ka (enOf W x) pa a b _ _ ms q most HF.out HE1.out HP.out (Kd.R_reads' HR1.out).2.2 HCC1.out HA.out HB.out HS.out HL.out).mono ?_; rintro e w2 ⟨A2, c2, rfl, hq, hz, hm⟩; have HQ2 := Aside0.mk hq; have HZ2 := Aside0.mk hz; have HM2 := Aside0.mk hm; have hK2 := (show w2.heap[g4]? = some (.cells (sdC x pa Au cu Ao co Ai ci) 43 (0, 0)) ∧ w2.heap[g6]? = some (.cells #[.slice B q.length d, .int .i64 a] 65 (0, 0)) from ⟨(hm.kept.2 _ (blk_lt hHeld.1) (fun h => by have := HKB.out _ h; have := HGE.out; omega)).trans hHeld.1, (hm.kept.2 _ (blk_lt hHeld.2) (fun h => by have := HKB.out _ h; have := HGE.out; omega)).trans hHeld.2⟩); clear hq hz hm
  go_simp
  refine hK.out _ _ hK2 (fun hHeld => ?_)
  clear hK K
  try simp only [Act.put, List.getElem_toArray, List.getElem_cons_zero, List.getElem_cons_succ, List.setIfInBounds_toArray, List.set_cons_zero, List.set_cons_succ]
  refine wpAnyH_take (i := 7) (v := ?_) rfl (by kernel_rfl) (by kernel_rfl) (by kernel_rfl) (fun _ _ _ h => h) (Or.inl ⟨by rfl, ?_⟩) (by assumption) ?_
  rotate_left 1
  · first | (intro w hSw; go_simp; done) | (intro w hSw; go_simp; with_reducible rfl)
  try simp only [Act.put, List.getElem_toArray, List.getElem_cons_zero, List.getElem_cons_succ, List.setIfInBounds_toArray, List.set_cons_zero, List.set_cons_succ]
  refine wpAnyH_take (i := 8) (v := ?_) rfl (by kernel_rfl) (by kernel_rfl) (by kernel_rfl) (fun _ _ _ h => h) (Or.inl ⟨by rfl, ?_⟩) (by assumption) ?_
  rotate_left 1
  · first | (intro w hSw; go_simp; done) | (intro w hSw; go_simp; with_reducible rfl)
  try simp only [Act.put, List.getElem_toArray, List.getElem_cons_zero, List.getElem_cons_succ, List.setIfInBounds_toArray, List.set_cons_zero, List.set_cons_succ]
  refine wpAnyH_take (i := 9) (v := ?_) rfl (by kernel_rfl) (by kernel_rfl) (by kernel_rfl) (fun _ _ _ h => h) (Or.inl ⟨by rfl, ?_⟩) (by assumption) ?_
  rotate_left 1
  · first | (intro w hSw; go_simp; done) | (intro w hSw; go_simp; with_reducible rfl)
  try simp only [Act.put, List.getElem_toArray, List.getElem_cons_zero, List.getElem_cons_succ, List.setIfInBounds_toArray, List.set_cons_zero, List.set_cons_succ]
  refine wpAnyH_take (i := 10) (v := ?_) rfl (by kernel_rfl) (by kernel_rfl) (by kernel_rfl) (fun _ _ _ h => h) (Or.inl ⟨by rfl, ?_⟩) (by assumption) ?_
  rotate_left 1
  · first | (intro w hSw; go_simp; done) | (intro w hSw; go_simp; with_reducible rfl)
  try simp only [Act.put, List.getElem_toArray, List.getElem_cons_zero, List.getElem_cons_succ, List.setIfInBounds_toArray, List.set_cons_zero, List.set_cons_succ]
  refine wpAnyH_take (i := 11) (v := ?_) rfl (by kernel_rfl) (by kernel_rfl) (by kernel_rfl) (fun _ _ _ h => h) (Or.inl ⟨by rfl, ?_⟩) (by assumption) ?_
  rotate_left 1
  · first | (intro w hSw; go_simp; done) | (intro w hSw; go_simp; with_reducible rfl)
  try simp only [Act.put, List.getElem_toArray, List.getElem_cons_zero, List.getElem_cons_succ, List.setIfInBounds_toArray, List.set_cons_zero, List.set_cons_succ]
  refine wpAnyH_done (by kernel_rfl) ?_ _
  refine NoPanic.normal ?_
  clear HQL ql
  -- WHAT STANDS AT w2
  have HG4 := Aside0.mk hHeld.1
  have HG6 := Aside0.mk hHeld.2
  have HKW := Lib.hid (show ∀ k, k < w0.heap.size → ¬ Ka k → w2.heap[k]? = w0.heap[k]? from fun k hk hn => (HM2.out.kept.2 k (by have := HB1.out.size; have := HSD.out; omega) hn).trans ((HB1.out.block k (by have := HSD.out; omega)).trans (HBD0.out.block k hk)))
  have HSW := Lib.hid (show w0.heap.size ≤ w1.heap.size ∧ w1.heap.size ≤ w2.heap.size from ⟨by have := HB1.out.size; have := HSD.out; omega, HM2.out.below.size⟩)
  have HBL := Aside0.mk (show Below lo w w2 from ((HBD.out.mono HLO.out).trans (HB1.out.mono (by have := HLO.out; have := HBD.out.size; omega))).trans HM2.out.below)
  have HN := Lib.hid (fun k hk h => by have := HKB.out k h; omega : ∀ k, w.heap.size ≤ k → ¬ Ka k)
  have HG5 := Aside0.mk ((HKW.out g5 (by have := HGE.out; have := HS0.out; omega) (HN.out _ (by have := HGE.out; omega))).trans HG5.out)
  have HG8 := Aside0.mk ((HKW.out g8 (by have := HGE.out; have := HS0.out; omega) (HN.out _ (by have := HGE.out; omega))).trans HG8.out)
  have HXX := Aside0.mk ((HX.out.step (fun k hk _ => HB0.out.block k hk.2)).step (w1 := w2) (fun k hk hlt => HKW.out k hlt (HFA.out k hk.1)))
  have HYY := Aside0.mk ((HY.out.step (fun k hk _ => HB0.out.block k hk.2)).step (w1 := w2) (fun k hk hlt => HKW.out k hlt (HFA.out k hk.1)))
  have HKK := Lib.hid (show ∀ k, k < w.heap.size → ¬ Ka k → w2.heap[k]? = w.heap[k]? from fun k hk hn => (HKW.out k (by have := HS0.out; omega) hn).trans (HB0.out.block k hk))
  have HZ := Aside0.mk (show IsEnd w2 lo Ka (enOf W (x.recv a b most ms)) pa by rw [enOf_recv]; exact HZ2.out)
  obtain ⟨r, hr⟩ : ∃ r, r = rcvd x.inn.length b most ms := ⟨_, rfl⟩
  have HR := Lib.hid hr
  have HQ2 := Aside0.mk (show kBs.Q 29 w2 w1.heap.size (fun _ => True) (.slice A2 r.length c2) r by rw [hr]; exact HQ2.out)
  have hrg : rcvd (enOf W x).got b most ms = r := hr.symm
  rw [hrg]
  have hr1 : r.length ≤ 100 := by
    have h1 := frs_len x.inn.length b ms
    have h2 := HL.out
    rw [hr]; unfold rcvd; rw [List.length_take]; omega
  have hr2 : (r.length : Int) ≤ most.toNat := by rw [hr]; unfold rcvd; rw [List.length_take]; omega
  have HFL := Aside0.mk (show Kd.F kBs w2 (fun k => w1.heap.size ≤ k) A2 r.length r from Kd.Q_F (Kd.Q_mono (Kd.Q_bound HQ2.out) (fun k hk => hk.2.1)))
  have HIN := Lib.hid (show (x.recv a b most ms).inn = x.inn ++ r by rw [hr]; rfl)
  have HTL := Lib.hid (show (x.recv a b most ms).tld = max x.tld a from rfl)
  clear HZ2 HQ2 HM2 HB1 HR1 HCC1 HE1 HBD HSD HBD0 HE hrg hr hHeld HB0 HX HY HP HQ HD HS HL
  have rb : (r.length : Int) ≤ 100 := by omega
  obtain ⟨my, hmy⟩ : ∃ my : Int, my = if (0 : Int) < most then most else 0 := ⟨_, rfl⟩
  have hmx : (if (0 : Int) < most then most else 0) = my := hmy.symm
  have gmx : decide ((r.length : Int) > my) = false := decide_eq_false (by rw [hmy]; split <;> omega)
  clear hmy hr2 hr1
  go_upto_region 4 with (fail)
  clear hmx gmx
  go_wp2
  go_loopw [36] (fun v wr => ∃ (k : Nat) (li : List (List UInt8)) (Ai' : Option Addr) (ci' : Nat), v = .int .i64 k ∧ Hid (k ≤ r.length ∧ li = x.inn ++ r.take k ∧ li.length ≤ ci') ∧ Aside0 (wr.heap[g4]? = some (.cells (bxC x pa Au cu Ao co Ai' li.length ci' x.tld) 43 (0, 0))) ∧ Aside0 (Kd.F kBs wr (fun k => (F k ∧ k < w.heap.size) ∨ w0.heap.size ≤ k) Ai' li.length li) ∧ Hid (w2.heap.size ≤ wr.heap.size ∧ ∀ k, k < w2.heap.size → k ≠ g4 → wr.heap[k]? = w2.heap[k]?) ∧ Aside0 (Below w.heap.size w2 wr)) (fun v _ => r.length - (intOf v).toNat)
  case atStart => exact ⟨0, x.inn, Ai, ci, rfl, ⟨Nat.zero_le _, by rw [List.take_zero, List.append_nil], HXX.out.ci⟩, HG4, ⟨Kd.F_mono HXX.out.fi (fun k hk => .inl hk)⟩, ⟨Nat.le_refl _, fun _ _ _ => rfl⟩, ⟨Below.refl _ _⟩⟩
  case round =>
    obtain ⟨k, li, Ai', ci', rfl, HK, HBX, HIF, HFR, HBR⟩ := hrel
    by_cases hlt : k < r.length
    · obtain ⟨ad, A0, c0, rfl, h1, hd0, h2⟩ := LF_cell (Kd.F_step HFL.out (fun k hk hlt => HFR.out.2 k hlt (by have := HGE.out; have := HSW.out; have := HS0.out; omega))) hlt
      have k0 : (0 : Int) ≤ k := by omega
      have k1 : (k : Int) < r.length := by omega
      obtain ⟨m, hm⟩ : ∃ m, m = gl r k := ⟨_, rfl⟩
      rw [← hm] at h1 hd0 h2
      have H2 := Aside0.mk h2
      have HD0 := Lib.hid hd0
      have HM := Lib.hid hm
      have HLT := Lib.hid hlt
      have c3 := blk_cell HBX.out 3
      have HLI := Lib.hid (show li.length ≤ 1000000 by rw [HK.out.2.1, List.length_append, List.length_take]; have := HF.out.gl; have e : (enOf W x).got = x.inn.length := rfl; omega)
      clear h2 hd0 hm hlt
      go_wp2_with (go_at_call 32; refine (with_calls wr (fun k => (F k ∧ k < w.heap.size) ∨ w0.heap.size ≤ k) Ai' ci' li A0 c0 m HIF.out (Kd.F_mono H2.out (fun k hk => .inr (by have := HSW.out; omega))) HD0.out HLI.out).mono ?_; rintro e w3 ⟨v3, rfl, hn3, hb3⟩; obtain ⟨A3, c3', rfl⟩ := Kd.N_slice hn3; have HN3 := Aside0.mk hn3; have HB3 := Aside0.mk hb3; have HBX3 := Aside0.mk ((hb3.block _ (blk_lt HBX.out)).trans HBX.out); have q3 := blk_cell HBX3.out 3; have f3 := blk_frozen HBX3.out 3; clear hn3 hb3)
      go_roundw
      case rel =>
        refine ⟨k + 1, li ++ [m], A3, c3', by go_num, ⟨by have := HLT.out; omega, ?_, (Kd.N_reads' HN3.out).2.1⟩, ⟨?_⟩, ⟨?_⟩, ⟨?_, fun j hj hne => ?_⟩, ⟨?_⟩⟩
        · rw [HK.out.2.1, List.take_succ_eq_append_getElem HLT.out, HM.out, gl_get r k HLT.out, List.append_assoc]
        · rw [show (li ++ [m]).length = li.length + 1 from by simp]
          exact blk_set HBX3.out 3 (.slice A3 (li.length + 1) c3')
        · refine Kd.F_far (Kd.F_mono (Kd.N_F HN3.out) (fun j hj => ?_)) (fun j hj => ?_) _
          · rcases hj with hj | hj
            · exact hj.1
            · exact .inr (by have := HFR.out.1; have := HSW.out; omega)
          · show j ≠ g4
            have := HGE.out
            have := HS0.out
            rcases hj with hj | hj <;> omega
        · rw [set_size]; exact Nat.le_trans HFR.out.1 HB3.out.size
        · rw [Below.heap_setCell _ _ _ _ (by exact hne)]
          exact (HB3.out.block j (Nat.lt_of_lt_of_le hj HFR.out.1)).trans (HFR.out.2 j hj hne)
        · exact (HBR.out.trans (HB3.out.mono (by have := HFR.out.1; have := HSW.out; have := HS0.out; omega))).setCell (show w.heap.size ≤ g4 by have := HGE.out; omega) _
      case measure => have := HLT.out; simp [intOf]; omega
    · have k1 : ¬ (k : Int) < r.length := by omega
      have k0 : (0 : Int) ≤ k := by omega
      have HKE := Lib.hid (show li = (x.recv a b most ms).inn by rw [HIN.out, HK.out.2.1, List.take_of_length_le (by omega)])
      clear hlt
      have HRT := Lib.hid (show li.length ≤ ci' from HK.out.2.2)
      clear HK
      -- REGION 9
      have HG6R := Aside0.mk ((HFR.out.2 g6 (blk_lt HG6.out) (by have := HGE.out; omega)).trans HG6.out)
      have c6 := blk_cell HBX.out 6
      have f6 := blk_frozen HBX.out 6
      have p1 := blk_cell HG6R.out 1
      have tx : (x.tld : Int) ≤ 100000 := by have h1 := HF.out.ol; have h2 := HF.out.so1; have h3 := HF.out.to1; have e1 : (enOf W x).tld = x.tld := rfl; omega
      have ta : (a : Int) ≤ 100000 := by have h1 := HF.out.ol; have h2 := HF.out.so1; have h3 := HA.out; have e1 : (enOf W x).so = x.so := rfl; omega
      obtain ⟨tm, htm⟩ : ∃ tm, tm = max x.tld a := ⟨_, rfl⟩
      have hmx : (if x.tld < a then (a : Int) else x.tld) = (tm : Int) := by
        rw [htm]
        by_cases h : x.tld < a
        · rw [if_pos h, Nat.max_eq_right (by omega)]
        · rw [if_neg h, Nat.max_eq_left (by omega)]
      have HTM := Lib.hid htm
      clear htm
      go_upto_region 10 with (fail)
      obtain ⟨w5, hw5⟩ : ∃ w5, w5 = wr.setCell ⟨g4, 6, none⟩ (.int .i64 (tm : Int)) := ⟨_, rfl⟩
      rw [← hw5]
      have HG4R := Aside0.mk (show w5.heap[g4]? = some (.cells (bxC x pa Au cu Ao co Ai' li.length ci' tm) 43 (0, 0)) by rw [hw5]; exact blk_set HBX.out 6 (.int .i64 (tm : Int)))
      have HFR5 := Lib.hid (show w2.heap.size ≤ w5.heap.size ∧ ∀ k, k < w2.heap.size → k ≠ g4 → w5.heap[k]? = w2.heap[k]? by
        rw [hw5]
        exact ⟨by rw [set_size]; exact HFR.out.1, fun j hj hne => (Below.heap_setCell _ _ _ _ (by exact hne)).trans (HFR.out.2 j hj hne)⟩)
      have HBR5 := Aside0.mk (show Below w.heap.size w2 w5 by rw [hw5]; exact HBR.out.setCell (show w.heap.size ≤ g4 by have := HGE.out; omega) _)
      have HIF5 := Aside0.mk (show Kd.F kBs w5 (fun k => (F k ∧ k < w.heap.size) ∨ w0.heap.size ≤ k) Ai' li.length li by rw [hw5]; exact Kd.F_far HIF.out (fun j hj => show j ≠ g4 by have := HGE.out; have := HS0.out; rcases hj with hj | hj <;> omega) _)
      clear hw5 hmx c6 f6 p1 HBX HFR HBR HIF HG6R tx ta HG6
      have HG5R := Aside0.mk ((HFR5.out.2 g5 (blk_lt HG5.out) (by have := HGE.out; omega)).trans HG5.out)
      have HG8R := Aside0.mk ((HFR5.out.2 g8 (blk_lt HG8.out) (by have := HGE.out; omega)).trans HG8.out)
      have HY5 := Aside0.mk (HYY.out.step (w1 := w5) (fun k hk hlt => HFR5.out.2 k hlt (by have := HGE.out; have := hk.2; omega)))
      clear HG5 HG8
      obtain ⟨A7, hrun, hC7, hc7⟩ := L_head (Kd.F_now HY5.out.fo) (hi := y.so) HY1.out HY5.out.co (y.so : Int) rfl
      rw [List.drop_zero] at hrun hC7 hc7
      obtain ⟨yo, hyo⟩ : ∃ yo, yo = y.out.take y.so := ⟨_, rfl⟩
      rw [← hyo] at hrun hC7 hc7
      have HC7 := Aside0.mk hC7
      have HC7C := Lib.hid hc7
      have HYO := Lib.hid (show li = yo.take li.length ∧ li.length ≤ yo.length ∧ yo.length ≤ 100000 by
        have hlen : yo.length = y.so := by rw [hyo]; exact List.length_take_of_le HY1.out
        refine ⟨?_, by rw [hlen, HKE.out]; exact HB2.out, by have := HY1.out; have := HY2.out; omega⟩
        rw [hyo, List.take_take, Nat.min_eq_left (by rw [HKE.out]; exact HB2.out), HKE.out]
        exact HB1.out)
      clear hyo hC7 hc7
      refine wp_region_noPanic ?_
      refine wp_region_held_drew (S := fun V => V.heap[g4]? = some (.cells (bxC x pa Au cu Ao co Ai' li.length ci' tm) 43 (0, 0)) ∧ V.heap[g5]? = some (.cells (sdC y pb Av cv Aq cq Aj cj) 43 (0, 0)) ∧ V.heap.size = w5.heap.size) (by kernel_rfl) (⟨HG4R.out, HG5R.out, rfl⟩) (fun hHeld => ?_)
      obtain ⟨wd, hwd⟩ : ∃ wd, wd = w5.drew := ⟨_, rfl⟩
      rw [← hwd] at hHeld ⊢
      have HBD := Aside0.mk (show Below w5.heap.size w5 wd by rw [hwd]; exact (Below.refl _ _).drew)
      have HDD := Lib.hid (show ∀ k : Nat, wd.heap[k]? = w5.heap[k]? by rw [hwd]; exact fun _ => rfl)
      have HDS := Lib.hid (show wd.heap.size = w5.heap.size by rw [hwd]; rfl)
      clear hwd
      refine wpAnyH_take (i := 0) (v := ?_) rfl (by kernel_rfl) (by kernel_rfl) (by kernel_rfl) (fun _ _ _ h => h) (Or.inl ⟨by rfl, ?_⟩) (by assumption) ?_
      rotate_left 1
      · first | (intro w hSw; obtain ⟨⟨r0, r1, r2, r3, r4, r5, r6⟩, _⟩ := cells7 hSw.1; go_simp; done) | (intro w hSw; obtain ⟨⟨r0, r1, r2, r3, r4, r5, r6⟩, _⟩ := cells7 hSw.1; go_simp; with_reducible rfl)
      try simp only [Act.put, List.getElem_toArray, List.getElem_cons_zero, List.getElem_cons_succ, List.setIfInBounds_toArray, List.set_cons_zero, List.set_cons_succ]
      refine wpAnyH_take (i := 1) (v := ?_) rfl (by kernel_rfl) (by kernel_rfl) (by kernel_rfl) (fun _ _ _ h => h) (Or.inl ⟨by rfl, ?_⟩) (by assumption) ?_
      rotate_left 1
      · first | (intro w hSw; go_simp; done) | (intro w hSw; go_simp; with_reducible rfl)
      try simp only [Act.put, List.getElem_toArray, List.getElem_cons_zero, List.getElem_cons_succ, List.setIfInBounds_toArray, List.set_cons_zero, List.set_cons_succ]
      refine wpAnyH_take (i := 2) (v := ?_) rfl (by kernel_rfl) (by kernel_rfl) (by kernel_rfl) (fun _ _ _ h => h) (Or.inl ⟨by rfl, ?_⟩) (by assumption) ?_
      rotate_left 1
      · first | (intro w hSw; have r0 := blk_cell hSw.1 3; go_simp; done) | (intro w hSw; have r0 := blk_cell hSw.1 3; go_simp; with_reducible rfl)
      try simp only [Act.put, List.getElem_toArray, List.getElem_cons_zero, List.getElem_cons_succ, List.setIfInBounds_toArray, List.set_cons_zero, List.set_cons_succ]
      refine wpAnyH_take (i := 3) (v := ?_) rfl (by kernel_rfl) (by kernel_rfl) (by kernel_rfl) (fun _ _ _ h => h) (Or.inl ⟨by rfl, ?_⟩) (by assumption) ?_
      rotate_left 1
      · first | (intro w hSw; go_simp; done) | (intro w hSw; go_simp; with_reducible rfl)
      try simp only [Act.put, List.getElem_toArray, List.getElem_cons_zero, List.getElem_cons_succ, List.setIfInBounds_toArray, List.set_cons_zero, List.set_cons_succ]
      refine wpAnyH_take (i := 4) (v := ?_) rfl (by kernel_rfl) (by kernel_rfl) (by kernel_rfl) (fun _ _ _ h => h) (Or.inl ⟨by rfl, ?_⟩) (by assumption) ?_
      rotate_left 1
      · first | (intro w hSw; have r0 := blk_cell hSw.2.1 2; go_simp; done) | (intro w hSw; have r0 := blk_cell hSw.2.1 2; go_simp; with_reducible rfl)
      try simp only [Act.put, List.getElem_toArray, List.getElem_cons_zero, List.getElem_cons_succ, List.setIfInBounds_toArray, List.set_cons_zero, List.set_cons_succ]
      refine wpAnyH_take (i := 5) (v := ?_) rfl (by kernel_rfl) (by kernel_rfl) (by kernel_rfl) (fun _ _ _ h => h) (Or.inl ⟨by rfl, ?_⟩) (by assumption) ?_
      rotate_left 1
      · first | (intro w hSw; go_simp; done) | (intro w hSw; go_simp; with_reducible rfl)
      try simp only [Act.put, List.getElem_toArray, List.getElem_cons_zero, List.getElem_cons_succ, List.setIfInBounds_toArray, List.set_cons_zero, List.set_cons_succ]
      refine wpAnyH_take (i := 6) (v := ?_) rfl (by kernel_rfl) (by kernel_rfl) (by kernel_rfl) (fun _ _ _ h => h) (Or.inl ⟨by rfl, ?_⟩) (by assumption) ?_
      rotate_left 1
      · first | (intro w hSw; have r0 := blk_cell hSw.2.1 4; go_simp; done) | (intro w hSw; have r0 := blk_cell hSw.2.1 4; go_simp; with_reducible rfl)
      try simp only [Act.put, List.getElem_toArray, List.getElem_cons_zero, List.getElem_cons_succ, List.setIfInBounds_toArray, List.set_cons_zero, List.set_cons_succ]
      refine wpAnyH_take (i := 7) (v := ?_) rfl (by kernel_rfl) (by kernel_rfl) (by kernel_rfl) (fun _ _ _ h => h) (Or.inl ⟨by rfl, ?_⟩) (by assumption) ?_
      rotate_left 1
      · first | (intro w hSw; go_simp; done) | (intro w hSw; go_simp; with_reducible rfl)
      try simp only [Act.put, List.getElem_toArray, List.getElem_cons_zero, List.getElem_cons_succ, List.setIfInBounds_toArray, List.set_cons_zero, List.set_cons_succ]
      refine wpAnyH_ready (rs := [8]) (by kernel_rfl) (by simp) ?_
      refine AllReadyH.cons rfl (fun K hK => ?_) AllReadyH.nil
      go_simp
      refine (begin_calls wd _ _ _ _ li yo (Kd.F_now (Kd.F_step HIF5.out (fun k _ hlt => HBD.out.block k hlt))) (Kd.C_below HC7.out HBD.out) HC7C.out HYO.out.1 HYO.out.2.1 HYO.out.2.2).mono ?_; rintro e w6 ⟨rfl, hdr⟩; have HDR := Aside0.mk hdr; have HEQ6 := Lib.hid (show ∀ k : Nat, w6.heap[k]? = w5.heap[k]? by obtain ⟨m, rfl⟩ := hdr; exact fun k => HDD.out k); have HSZ6 := Lib.hid (show w6.heap.size = w5.heap.size by obtain ⟨m, rfl⟩ := hdr; exact HDS.out); have hK6 := (show w6.heap[g4]? = some (.cells (bxC x pa Au cu Ao co Ai' li.length ci' tm) 43 (0, 0)) ∧ w6.heap[g5]? = some (.cells (sdC y pb Av cv Aq cq Aj cj) 43 (0, 0)) ∧ w6.heap.size = w5.heap.size from ⟨(HEQ6.out _).trans HG4R.out, (HEQ6.out _).trans HG5R.out, HSZ6.out⟩); have HG8Q := Aside0.mk ((HEQ6.out g8).trans HG8R.out); clear hdr
      go_simp
      refine hK.out _ _ hK6 (fun hHeld => ?_)
      clear hK K
      try simp only [Act.put, List.getElem_toArray, List.getElem_cons_zero, List.getElem_cons_succ, List.setIfInBounds_toArray, List.set_cons_zero, List.set_cons_succ]
      refine wpAnyH_ready (rs := [9]) (by kernel_rfl) (by simp) ?_
      refine AllReadyH.cons rfl (fun K hK => ?_) AllReadyH.nil
      go_simp
      obtain ⟨⟨r0, r1, r2, r3, r4, r5, r6⟩, s0, s1, s2, s3, s4, s5, s6⟩ := cells7 (show w6.heap[g8]? = some (.cells #[.pointer none, .slice none 0 0, .slice none 0 0, .slice none 0 0, .int .i64 0, .int .i64 0, .int .i64 0] 43 (0, 0)) from HG8Q.out)
      go_simp
      refine hK.out _ _ (by rw [put7_fold]; exact ⟨(put7_ne _ (by have := HGE.out; omega) _ _ _ _ _ _ _).trans hHeld.1, (put7_ne _ (by have := HGE.out; omega) _ _ _ _ _ _ _).trans hHeld.2.1, (put7_size _ _ _ _ _ _ _ _ _).trans hHeld.2.2⟩) (fun hHeld => ?_)
      clear hK K
      try simp only [Act.put, List.getElem_toArray, List.getElem_cons_zero, List.getElem_cons_succ, List.setIfInBounds_toArray, List.set_cons_zero, List.set_cons_succ]
      refine wpAnyH_take (i := 10) (v := ?_) rfl (by kernel_rfl) (by kernel_rfl) (by kernel_rfl) (fun _ _ _ h => h) (Or.inl ⟨by rfl, ?_⟩) (by assumption) ?_
      rotate_left 1
      · first | (intro w hSw; go_simp; done) | (intro w hSw; go_simp; with_reducible rfl)
      try simp only [Act.put, List.getElem_toArray, List.getElem_cons_zero, List.getElem_cons_succ, List.setIfInBounds_toArray, List.set_cons_zero, List.set_cons_succ]
      refine wpAnyH_done (by kernel_rfl) ?_ _
      refine NoPanic.normal ?_
      rw [put7_fold]
      obtain ⟨w9, hw9⟩ : ∃ w9, w9 = put7 w6 g8 (.pointer (some ⟨pa, 0, none⟩)) (.slice Au x.und.length cu) (.slice Ao x.out.length co) (.slice Ai' li.length ci') (.int .i64 x.so) (.int .i64 x.si) (.int .i64 tm) := ⟨_, rfl⟩
      rw [← hw9]
      have hg9 : w9.heap[g8]? = some (.cells #[.pointer (some ⟨pa, 0, none⟩), .slice Au x.und.length cu, .slice Ao x.out.length co, .slice Ai' li.length ci', .int .i64 x.so, .int .i64 x.si, .int .i64 tm] 43 (0, 0)) := by
        rw [hw9]
        exact put7_at (show w6.heap[g8]? = some (.cells #[.pointer none, .slice none 0 0, .slice none 0 0, .slice none 0 0, .int .i64 0, .int .i64 0, .int .i64 0] 43 (0, 0)) from HG8Q.out) _ _ _ _ _ _ _
      have hk9 : ∀ k, k ≠ g8 → w9.heap[k]? = w5.heap[k]? := fun k hk => by rw [hw9]; exact (put7_ne _ hk _ _ _ _ _ _ _).trans (HEQ6.out k)
      have hs9 : w9.heap.size = w5.heap.size := by rw [hw9, put7_size]; exact HSZ6.out
      have hb9 : Below w.heap.size w5 w9 := by
        rw [hw9]
        refine put7_below ?_ (by have := HGE.out; omega) _ _ _ _ _ _ _
        obtain ⟨m, e⟩ := HDR.out
        rw [e]
        exact pw_below_drewN (HBD.out.mono (by have := HBR5.out.size; have := HFR5.out.1; have := HSW.out; have := HS0.out; omega)) m
      have HG9 := Aside0.mk hg9
      have HK9 := Lib.hid (show ∀ k, k < w2.heap.size → k ≠ g4 → k ≠ g8 → w9.heap[k]? = w2.heap[k]? from fun k hk h4 h8 => (hk9 k h8).trans (HFR5.out.2 k hk h4))
      have HS9 := Lib.hid (show w2.heap.size ≤ w9.heap.size by have := HFR5.out.1; omega)
      have HB9 := Aside0.mk (show Below lo w w9 from (HBL.out.trans (HBR5.out.mono HLO.out)).trans (hb9.mono HLO.out))
      have HI9 := Aside0.mk (Kd.F_step (W1 := w9) HIF5.out (fun j hj _ => hk9 j (by have := HGE.out; have := HS0.out; rcases hj with hj | hj <;> omega)))
      clear hw9 hg9 hk9 hs9 hb9 HEQ6 HSZ6 HDR HBD HDD HDS HG8Q hHeld HBR5 HFR5 HIF5 HBL
      obtain ⟨⟨r0, r1, r2, r3, r4, r5, r6⟩, _⟩ := cells7 HG9.out
      go_wp2
      (try simp only [Exit.inBlock, Exit.then])
      refine bodyPost_ret (v := .tuple #[.agg #[.pointer (some ⟨pa, 0, none⟩), .slice Au x.und.length cu, .slice Ao x.out.length co, .slice Ai' li.length ci', .int .i64 x.so, .int .i64 x.si, .int .i64 tm], .bool true]) (by simp [results, Try.results26, go_sem, r0, r1, r2, r3, r4, r5, r6]) rfl ?_
      refine ⟨Ai', ci', ?_, HZ.out.move (fun k hk => HK9.out k (by have := HKB.out k hk; have := HSW.out; have := HS0.out; omega) (by have := HKB.out k hk; have := HGE.out; omega) (by have := HKB.out k hk; have := HGE.out; omega)) HS9.out, ⟨HB9.out, ⟨by have := HS9.out; have := HSW.out; have := HS0.out; omega, fun k hk hn => (HK9.out k (by have := HSW.out; have := HS0.out; omega) (by have := HGE.out; omega) (by have := HGE.out; omega)).trans (HKK.out k hk hn)⟩, fun k hk => .inl hk⟩, ?_⟩
      · rw [HKE.out, HTM.out]
        rfl
      · have hst := HXX.out.step (w1 := w9) (fun k hk hlt => HK9.out k hlt (by have := HGE.out; have := hk.2; omega) (by have := HGE.out; have := hk.2; omega))
        refine ⟨hst.cu, Kd.F_mono hst.fu (fun k hk => .inl hk), hst.co, Kd.F_mono hst.fo (fun k hk => .inl hk), by rw [← HKE.out]; exact HRT.out, ?_⟩
        rw [← HKE.out]
        exact Kd.F_mono HI9.out (fun k hk => by rcases hk with hk | hk; exact .inl hk; exact .inr (by have := HS0.out; omega))
end Go.Proofs.Ytcdhjkkdenhmcaa
