/- How an end of a session lies in memory; all its blocks are among a set of blocks, which grows. New, Send, Push, Commit, the counts. -/
import Derived.Test.YtcdhjkkdenhmcaaLkRo
import Derived.Deep.RegionHeld3
namespace Go.Proofs.Ytcdhjkkdenhmcaa
open Go.RowKit Go.Proofs.YtcdhjkkdenhmcaaW.PrintWords Go.Proofs.YtcdhjkkdenhmcaaW.PrintLast Go.Proofs.YtcdhjkkdenhmcaaW.PrintMore
set_option linter.unusedVariables false
set_option linter.unusedSimpArgs false
structure En where
  win : Nat
  out : List (List UInt8)
  so : Nat
  tld : Nat
  got : Nat
  sg : Nat
  rcv : Bool
def En.new (n : Nat) : En := ⟨n, [], 0, 0, 0, 0, false⟩
abbrev enCells (N : En) (A : Option Addr) (c : Nat) : Array Value := #[.int .i64 N.win, .slice A N.out.length c, .int .i64 N.so, .int .i64 N.tld, .int .i64 N.got, .int .i64 N.sg, .bool N.rcv]
structure EndAt (w : World) (lo : Nat) (K : Nat → Prop) (N : En) (p : Nat) (A : Option Addr) (c : Nat) : Prop where
  blk : w.heap[p]? = some (.cells (enCells N A c) 50 (0, 0))
  ro : Ro w lo (fun k => K k ∧ k ≠ p) (.slice A N.out.length c) N.out
  kp : K p
  kb : ∀ k, K k → lo ≤ k ∧ k < w.heap.size
def IsEnd (w : World) (lo : Nat) (K : Nat → Prop) (N : En) (p : Nat) : Prop := ∃ A c, EndAt w lo K N p A c
/-- The blocks of before, and what is new. -/
def Kx (K : Nat → Prop) (w w1 : World) (k : Nat) : Prop := K k ∨ w.heap.size ≤ k ∧ k < w1.heap.size
structure Moved (w w' : World) (lo : Nat) (K K' : Nat → Prop) : Prop where
  below : Below lo w w'
  kept : Kept w w' K
  new : ∀ k, K' k → K k ∨ w.heap.size ≤ k
theorem Moved.trans {w w1 w2 : World} {lo : Nat} {K K1 K2 : Nat → Prop} (h : Moved w w1 lo K K1) (k : Moved w1 w2 lo K1 K2) : Moved w w2 lo K K2 :=
  ⟨h.below.trans k.below, h.kept.then_ k.kept h.new, fun i hi => (k.new i hi).elim (h.new i) (fun h2 => .inr (Nat.le_trans h.below.size h2))⟩
theorem Moved.refl (w : World) (lo : Nat) (K : Nat → Prop) : Moved w w lo K K := ⟨Below.refl _ _, Kept.refl _ _, fun _ h => .inl h⟩
theorem Moved.drew (w : World) (lo : Nat) (K : Nat → Prop) : Moved w w.drew lo K K := ⟨(Below.refl _ _).drew, ⟨Nat.le_refl _, fun _ _ _ => rfl⟩, fun _ h => .inl h⟩
theorem set_size (W : World) (g i : Nat) (u : Value) : (W.setCell ⟨g, i, none⟩ u).heap.size = W.heap.size := by simp [World.setCell]
section
variable {w w1 : World} {lo p c : Nat} {K K' : Nat → Prop} {N : En} {A : Option Addr}
theorem EndAt.move (z : EndAt w lo K N p A c) (hm : ∀ k, K k → w1.heap[k]? = w.heap[k]?) (hs : w.heap.size ≤ w1.heap.size) : EndAt w1 lo K N p A c :=
  ⟨(hm _ z.kp).trans z.blk, z.ro.step fun k hk _ => hm k hk.1, z.kp, fun k hk => ⟨(z.kb k hk).1, Nat.lt_of_lt_of_le (z.kb k hk).2 hs⟩⟩
theorem EndAt.widen (z : EndAt w lo K N p A c) (hk : ∀ k, K k → K' k) (hb : ∀ k, K' k → lo ≤ k ∧ k < w.heap.size) : EndAt w lo K' N p A c :=
  ⟨z.blk, z.ro.mono fun k h _ => ⟨hk k h.1, h.2⟩, hk _ z.kp, hb⟩
theorem EndAt.low (z : EndAt w lo K N p A c) : lo ≤ w.heap.size := by have := z.kb _ z.kp; omega
theorem EndAt.stay (z : EndAt w lo K N p A c) (hb : Below w.heap.size w w1) : EndAt w1 lo K N p A c := z.move (fun k hk => hb.block k (z.kb k hk).2) hb.size
theorem EndAt.below (z : EndAt w lo K N p A c) (hb : Below w.heap.size w w1) : EndAt w1 lo (Kx K w w1) N p A c :=
  (z.stay hb).widen (fun k hk => .inl hk) fun k hk => by
    have := hb.size
    have := z.low
    rcases hk with hk | hk
    · have := z.kb k hk; omega
    · omega
theorem IsEnd.stay (z : IsEnd w lo K N p) (hb : Below w.heap.size w w1) : IsEnd w1 lo K N p := by
  obtain ⟨_, _, z⟩ := z
  exact ⟨_, _, z.stay hb⟩
theorem IsEnd.move (z : IsEnd w lo K N p) (hm : ∀ k, K k → w1.heap[k]? = w.heap[k]?) (hs : w.heap.size ≤ w1.heap.size) : IsEnd w1 lo K N p := by
  obtain ⟨_, _, z⟩ := z
  exact ⟨_, _, z.move hm hs⟩
theorem IsEnd.kb (z : IsEnd w lo K N p) : ∀ k, K k → lo ≤ k ∧ k < w.heap.size := by
  obtain ⟨_, _, z⟩ := z
  exact z.kb
theorem moved_set (z : EndAt w lo K N p A c) (i : Nat) (u : Value) : Moved w (w.setCell ⟨p, i, none⟩ u) lo K K :=
  ⟨(Below.refl _ _).setCell (z.kb p z.kp).1 _, ⟨by rw [set_size]; exact Nat.le_refl _, fun k hk hn => Below.heap_setCell _ _ _ _ (fun e => hn (e ▸ z.kp))⟩, fun k hk => .inl hk⟩
theorem EndAt.set (z : EndAt w lo K N p A c) (i : Nat) (u : Value) {N' : En} {A' : Option Addr} {c' : Nat} (he : (enCells N A c).setIfInBounds i u = enCells N' A' c') (hr : Ro w lo (fun k => K k ∧ k ≠ p) (.slice A' N'.out.length c') N'.out) : EndAt (w.setCell ⟨p, i, none⟩ u) lo K N' p A' c' :=
  ⟨by rw [blk_set z.blk, he], hr.far (fun k hk => hk.2) _, z.kp, fun k hk => by rw [set_size]; exact z.kb k hk⟩
theorem EndAt.cells (z : EndAt w lo K N p A c) : w.cell? ⟨p, 0, none⟩ = some (.int .i64 N.win) ∧ w.cell? ⟨p, 1, none⟩ = some (.slice A N.out.length c) ∧ w.cell? ⟨p, 2, none⟩ = some (.int .i64 N.so) ∧ w.cell? ⟨p, 3, none⟩ = some (.int .i64 N.tld) ∧ w.cell? ⟨p, 4, none⟩ = some (.int .i64 N.got) ∧ w.cell? ⟨p, 5, none⟩ = some (.int .i64 N.sg) ∧ w.cell? ⟨p, 6, none⟩ = some (.bool N.rcv) :=
  ⟨blk_cell z.blk 0, blk_cell z.blk 1, blk_cell z.blk 2, blk_cell z.blk 3, blk_cell z.blk 4, blk_cell z.blk 5, blk_cell z.blk 6⟩
end
set_option maxRecDepth 100000 in
theorem linkNew_calls (w : World) (n : Nat) (h1 : 1 ≤ n) (h2 : n ≤ 64) :
    Calls Try.prog 7 #[.int .i64 n] w fun e w' => e = .returned (.tuple #[.pointer (some ⟨w.heap.size, 0, none⟩), .nilIface]) ∧ IsEnd w' w.heap.size (fun k => k = w.heap.size) (En.new n) w.heap.size ∧ w'.heap.size = w.heap.size + 1 ∧ Below w.heap.size w w' := by
  have e1 : decide ((n : Int) < 1) = false := decide_eq_false (by omega)
  have e2 : decide ((n : Int) > 64) = false := decide_eq_false (by omega)
  have e3 : ¬ (n : Int) < 1 := by omega
  have e4 : ¬ (n : Int) > 64 := by omega
  go_enter Try.func7, Try.ntmps7
  go_wp2
  go_ret2
  refine ⟨rfl, ⟨none, 0, ⟨heap_alloc_new _ _, Ro.nil _ _ _, rfl, fun k hk => ?_⟩⟩, Array.size_push _, below_alloc (Below.refl _ _) _⟩
  subst hk
  exact ⟨Nat.le_refl _, by rw [show ∀ o, (w.alloc o).heap.size = w.heap.size + 1 from fun o => Array.size_push _]; omega⟩
structure EnFine (N : En) : Prop where
  w1 : 1 ≤ N.win
  w2 : N.win ≤ 64
  ol : N.out.length ≤ 100000
  so1 : N.so ≤ N.out.length
  to1 : N.tld ≤ N.so
  gl : N.got ≤ 100000
  sg1 : N.sg ≤ N.got
set_option maxRecDepth 100000 in
theorem linkOpen_calls (w : World) (lo : Nat) (K : Nat → Prop) (N : En) (p : Nat) (hF : EnFine N) (hE : IsEnd w lo K N p) :
    Calls Try.prog 11 #[.pointer (some ⟨p, 0, none⟩)] w fun e w' => e = .returned (.int .i64 ((N.so : Int) - N.tld)) ∧ Drawn0 w w' := by
  obtain ⟨A, c, z⟩ := hE
  obtain ⟨c0, c1, c2, c3, c4, c5, c6⟩ := z.cells
  have h1 := hF.ol
  have h2 := hF.so1
  have h3 := hF.to1
  have b1 : (N.so : Int) ≤ 100000 := by omega
  have b2 : (N.tld : Int) ≤ 100000 := by omega
  obtain ⟨x, hx⟩ : ∃ x, x = (N.so : Int) := ⟨_, rfl⟩
  obtain ⟨y, hy⟩ : ∃ y, y = (N.tld : Int) := ⟨_, rfl⟩
  have x0 : 0 ≤ x := by omega
  have y0 : 0 ≤ y := by omega
  rw [← hx] at c2 b1 ⊢
  rw [← hy] at c3 b2 ⊢
  clear z c0 c1 c4 c5 c6 h1 h2 h3 hF hx hy
  go_enter Try.func11, Try.ntmps11
  go_wp2
  go_quiet (fail)
  go_wp2
  go_ret
  exact ⟨rfl, ⟨⟨_, rfl⟩⟩⟩
def En.commit (N : En) : En := { N with so := N.out.length, sg := N.got }
theorem EnFine.commit {N : En} (h : EnFine N) : EnFine N.commit := ⟨h.w1, h.w2, h.ol, Nat.le_refl _, Nat.le_trans h.to1 h.so1, h.gl, Nat.le_refl _⟩
set_option maxRecDepth 100000 in
theorem linkCommit_calls (w : World) (lo : Nat) (K : Nat → Prop) (N : En) (p : Nat) (hF : EnFine N) (hE : IsEnd w lo K N p) :
    Calls Try.prog 8 #[.pointer (some ⟨p, 0, none⟩)] w fun e w' => e = .returned .nilIface ∧ IsEnd w' lo K N.commit p ∧ Moved w w' lo K K := by
  obtain ⟨A, c, z⟩ := hE
  have HZ := Aside0.mk z
  obtain ⟨c0, c1, c2, c3, c4, c5, c6⟩ := z.cells
  have f2 := blk_frozen z.blk 2
  have f5 := blk_frozen z.blk 5
  clear z hF c0 c3 c6
  go_enter Try.func8, Try.ntmps8
  go_wp2
  go_region
  all_goals
    go_wp2
    go_ret
    have z := HZ.out
    have z2 := z.set 2 (.int .i64 (N.out.length : Int)) (N' := { N with so := N.out.length }) rfl z.ro
    have z5 := z2.set 5 (.int .i64 (N.got : Int)) (N' := N.commit) rfl z2.ro
    exact ⟨rfl, ⟨A, c, z5.stay (Below.refl _ _).drew⟩, ((moved_set z 2 _).trans (moved_set z2 5 _)).trans (Moved.drew _ _ _)⟩
def En.push (N : En) (m : List UInt8) : En := { N with out := N.out ++ [m] }
theorem send_end {w w3 : World} {lo p c k3 : Nat} {K : Nat → Prop} {N : En} {A A3 : Option Addr} {m : List UInt8} (z : EndAt w lo K N p A c)
    (hr : Ro w3 lo (fun k => (K k ∧ k ≠ p) ∨ w.heap.size ≤ k) (.slice A3 (N.out ++ [m]).length k3) (N.out ++ [m])) (hp : w3.heap[p]? = some (.cells (enCells N A c) 50 (0, 0)))
    (hk : ∀ k, k < w.heap.size → ¬ K k → w3.heap[k]? = w.heap[k]?) (hs : w.heap.size ≤ w3.heap.size) (hb : Below lo w w3) :
    ∃ K', IsEnd (w3.setCell ⟨p, 1, none⟩ (.slice A3 (N.out.length + 1) k3)) lo K' (N.push m) p ∧ Moved w (w3.setCell ⟨p, 1, none⟩ (.slice A3 (N.out.length + 1) k3)) lo K K' := by
  have hpp := z.kb p z.kp
  have hlen : (N.out ++ [m]).length = N.out.length + 1 := by simp
  have hr2 : Ro w3 lo (fun k => Kx K w w3 k ∧ k ≠ p) (.slice A3 (N.push m).out.length k3) (N.push m).out := hr.mono (fun k hk hlt => by
    rcases hk with h | h
    · exact ⟨.inl h.1, h.2⟩
    · exact ⟨.inr ⟨h, hlt⟩, by omega⟩)
  refine ⟨Kx K w w3, ⟨A3, k3, ⟨?_, hr2.far (fun k hk => hk.2) _, .inl z.kp, fun k hk => ?_⟩⟩, ⟨hb.setCell hpp.1 _, ⟨by rw [set_size]; exact hs, fun k hlt hn => ?_⟩, fun k hk => hk.elim .inl (fun h => .inr h.1)⟩⟩
  · rw [blk_set hp]
    show some (Obj.cells #[_, _, _, _, _, _, _] _ _) = _
    simp [enCells, En.push]
  · rw [set_size]
    have := z.low
    rcases hk with hk | hk
    · have := z.kb k hk; omega
    · omega
  · have hne : k ≠ p := by
      intro e
      subst e
      exact hn z.kp
    rw [Below.heap_setCell _ _ _ _ hne]
    exact hk k hlt hn
set_option maxRecDepth 100000 in
theorem linkSend_calls (w : World) (lo : Nat) (KK : Nat → Prop) (N : En) (p : Nat) (B : Option Addr) (d : Nat) (m : List UInt8) (hF : EnFine N) (hE : IsEnd w lo KK N p) (hm : kB.C w B m.length m) (hl : m.length ≤ 65536) :
    Calls Try.prog 19 #[.pointer (some ⟨p, 0, none⟩), .slice B m.length d] w fun e w' => e = .returned (.tuple #[]) ∧ ∃ K', IsEnd w' lo K' (N.push m) p ∧ Moved w w' lo KK K' := by
  obtain ⟨A, c, z⟩ := hE
  have HZ := Aside0.mk z
  have HM := Aside0.mk hm
  have HL := Lib.hid hl
  have HO := Lib.hid hF.ol
  obtain ⟨c0, c1, c2, c3, c4, c5, c6⟩ := z.cells
  have f1 := blk_frozen z.blk 1
  clear z hF hm hl c0 c2 c3 c4 c5 c6
  go_enter Try.func19, Try.ntmps19
  go_wp2
  -- SEND
  refine wp_region_noPanic ?_
  refine wp_region_held_drew (S := fun _ => True) (by kernel_rfl) trivial (fun hHeld => ?_)
  refine wpAnyH_take (i := 0) (v := ?_) rfl (by kernel_rfl) (by kernel_rfl) (by kernel_rfl) (fun _ _ _ h => h) (Or.inl ⟨by rfl, ?_⟩) trivial ?_
  rotate_left 1
  · first | (intro w hSw; go_simp; done) | (intro w hSw; go_simp; with_reducible rfl)
  try simp only [Act.put, List.getElem_toArray, List.getElem_cons_zero, List.getElem_cons_succ, List.setIfInBounds_toArray, List.set_cons_zero, List.set_cons_succ]
  refine wpAnyH_take (i := 1) (v := ?_) rfl (by kernel_rfl) (by kernel_rfl) (by kernel_rfl) (fun _ _ _ h => h) (Or.inl ⟨by rfl, ?_⟩) trivial ?_
  rotate_left 1
  · first | (intro w hSw; go_simp; done) | (intro w hSw; go_simp; with_reducible rfl)
  try simp only [Act.put, List.getElem_toArray, List.getElem_cons_zero, List.getElem_cons_succ, List.setIfInBounds_toArray, List.set_cons_zero, List.set_cons_succ]
  refine wpAnyH_take (i := 2) (v := ?_) rfl (by kernel_rfl) (by kernel_rfl) (by kernel_rfl) (fun _ _ _ h => h) (Or.inl ⟨by rfl, ?_⟩) trivial ?_
  rotate_left 1
  · first | (intro w hSw; go_simp; done) | (intro w hSw; go_simp; with_reducible rfl)
  try simp only [Act.put, List.getElem_toArray, List.getElem_cons_zero, List.getElem_cons_succ, List.setIfInBounds_toArray, List.set_cons_zero, List.set_cons_succ]
  refine wpAnyH_take (i := 3) (v := ?_) rfl (by kernel_rfl) (by kernel_rfl) (by kernel_rfl) (fun _ _ _ h => h) (Or.inl ⟨by rfl, ?_⟩) trivial ?_
  rotate_left 1
  · first | (intro w hSw; go_simp; done) | (intro w hSw; go_simp; with_reducible rfl)
  try simp only [Act.put, List.getElem_toArray, List.getElem_cons_zero, List.getElem_cons_succ, List.setIfInBounds_toArray, List.set_cons_zero, List.set_cons_succ]
  refine wpAnyH_take (i := 5) (v := ?_) rfl (by kernel_rfl) (by kernel_rfl) (by kernel_rfl) (fun _ _ _ h => h) (Or.inl ⟨by rfl, ?_⟩) trivial ?_
  rotate_left 1
  · first | (intro w hSw; go_simp; done) | (intro w hSw; go_simp; with_reducible rfl)
  try simp only [Act.put, List.getElem_toArray, List.getElem_cons_zero, List.getElem_cons_succ, List.setIfInBounds_toArray, List.set_cons_zero, List.set_cons_succ]
  refine wpAnyH_ready (rs := [4, 6]) (by kernel_rfl) (by simp) ?_
  refine AllReadyH.cons rfl (fun K hK => ?_) (AllReadyH.cons rfl (fun K hK => ?_) AllReadyH.nil)
  · skip
    go_simp
    refine hK.out _ _ trivial (fun hHeld => ?_)
    clear hK K
    try simp only [Act.put, List.getElem_toArray, List.getElem_cons_zero, List.getElem_cons_succ, List.setIfInBounds_toArray, List.set_cons_zero, List.set_cons_succ]
    refine wpAnyH_ready (rs := [6]) (by kernel_rfl) (by simp) ?_
    refine AllReadyH.cons rfl (fun K hK => ?_) AllReadyH.nil
    go_simp
    refine (cloneB_calls _ _ _ m (Kd.C_below HM.out (Below.refl _ _).drew) (by have := HL.out; omega)).mono ?_
    intro e w1 hn
    obtain ⟨A1, c1', rfl, hcl, hR, hC, hb⟩ := hn.open_
    have HR1 := Aside0.mk hR
    have HB1 := Aside0.mk (show Below w.heap.size w w1 from below_step (Below.refl _ _).drew hb)
    clear hn hcl hR hC hb
    go_simp
    refine hK.out _ _ trivial (fun hHeld => ?_)
    clear hK K
    try simp only [Act.put, List.getElem_toArray, List.getElem_cons_zero, List.getElem_cons_succ, List.setIfInBounds_toArray, List.set_cons_zero, List.set_cons_succ]
    refine wpAnyH_ready (rs := [7]) (by kernel_rfl) (by simp) ?_
    refine AllReadyH.cons rfl (fun K hK => ?_) AllReadyH.nil
    go_simp
    refine hK.out _ _ trivial (fun hHeld => ?_)
    clear hK K
    try simp only [Act.put, List.getElem_toArray, List.getElem_cons_zero, List.getElem_cons_succ, List.setIfInBounds_toArray, List.set_cons_zero, List.set_cons_succ]
    refine wpAnyH_ready (rs := [8]) (by kernel_rfl) (by simp) ?_
    refine AllReadyH.cons rfl (fun K hK => ?_) AllReadyH.nil
    refine Ro_append_step (W := w1) (w0 := w1) lo rfl _ _ rfl (.slice A N.out.length c) N.out m [.slice A1 m.length c1'] (fun k => KK k ∧ k ≠ p) (fun k => (KK k ∧ k ≠ p) ∨ w.heap.size ≤ k) (fun k => w.heap.size ≤ k) (fun k hk => .inl hk) rfl rfl (Kd.FK_of_M (d := kBs) ⟨_, rfl, Kd.R_mono (Kd.R_bound HR1.out) (fun k hk => hk.2.1)⟩) ?hok (fun k hk => .inr (Nat.le_trans HB1.out.size hk)) (HZ.out.ro.step (fun k _ hlt => HB1.out.block k hlt)) (Below.refl _ _) (Nat.le_trans HZ.out.low HB1.out.size) (by have := HO.out; omega) ?_
    case hok =>
      intro k hk
      exact ⟨.inr hk, fun h => by have := (HZ.out.kb k h.1).2; omega⟩
    intro v3 w3 hr3 hb3 hs3 hk3
    obtain ⟨A3, k3, hv3, _, _⟩ := hr3.reads
    subst hv3
    have HR3 := Aside0.mk hr3
    have HB3 := Aside0.mk hb3
    have HP3 := Aside0.mk (show w3.heap[p]? = some (.cells (enCells N A c) 50 (0, 0)) from (hk3 p (Nat.lt_of_lt_of_le (HZ.out.kb p HZ.out.kp).2 HB1.out.size) (fun e => e.elim (fun e => e.2 rfl) (fun e => by have := (HZ.out.kb p HZ.out.kp).2; omega))).trans ((HB1.out.block p (HZ.out.kb p HZ.out.kp).2).trans HZ.out.blk))
    have HK3 := Lib.hid (show ∀ k, k < w.heap.size → ¬ KK k → w3.heap[k]? = w.heap[k]? from fun k hk hn => (hk3 k (Nat.lt_of_lt_of_le hk HB1.out.size) (fun e => e.elim (fun e => hn e.1) (fun e => by omega))).trans (HB1.out.block k hk))
    have HS3 := Lib.hid (Nat.le_trans HB1.out.size hs3)
    clear hr3 hb3 hs3 hk3
    refine hK.out _ _ trivial (fun hHeld => ?_)
    clear hK K
    try simp only [Act.put, List.getElem_toArray, List.getElem_cons_zero, List.getElem_cons_succ, List.setIfInBounds_toArray, List.set_cons_zero, List.set_cons_succ]
    refine wpAnyH_take (i := 9) (v := ?_) rfl (by kernel_rfl) (by kernel_rfl) (by kernel_rfl) (fun _ _ _ h => h) (Or.inl ⟨by rfl, ?_⟩) trivial ?_
    rotate_left 1
    · first | (intro w hSw; go_simp; done) | (intro w hSw; go_simp; with_reducible rfl)
    try simp only [Act.put, List.getElem_toArray, List.getElem_cons_zero, List.getElem_cons_succ, List.setIfInBounds_toArray, List.set_cons_zero, List.set_cons_succ]
    refine wpAnyH_take (i := 10) (v := ?_) rfl (by kernel_rfl) (by kernel_rfl) (by kernel_rfl) (fun _ _ _ h => h) (Or.inl ⟨by rfl, ?_⟩) trivial ?_
    rotate_left 1
    · first | (intro w hSw; go_simp; done) | (intro w hSw; go_simp; with_reducible rfl)
    try simp only [Act.put, List.getElem_toArray, List.getElem_cons_zero, List.getElem_cons_succ, List.setIfInBounds_toArray, List.set_cons_zero, List.set_cons_succ]
    refine wpAnyH_ready (rs := [11]) (by kernel_rfl) (by simp) ?_
    refine AllReadyH.cons rfl (fun K hK => ?_) AllReadyH.nil
    have d1 : w3.cell? ⟨p, 1, none⟩ = some (.slice A N.out.length c) := blk_cell HP3.out 1
    have e1 := blk_frozen HP3.out 1
    go_simp
    refine hK.out _ _ trivial (fun hHeld => ?_)
    clear hK K
    try simp only [Act.put, List.getElem_toArray, List.getElem_cons_zero, List.getElem_cons_succ, List.setIfInBounds_toArray, List.set_cons_zero, List.set_cons_succ]
    refine wpAnyH_done (by kernel_rfl) ?_ _
    refine NoPanic.normal ?_
    go_wp2
    refine bodyPost_end (v := .tuple #[]) (by simp [results, Try.results19, go_sem]) rfl ?_
    obtain ⟨K9, hz9, hmv⟩ := send_end (m := m) HZ.out HR3.out HP3.out HK3.out HS3.out ((HB1.out.mono HZ.out.low).trans HB3.out)
    exact ⟨rfl, K9, hz9, hmv⟩
  · skip
    go_simp
    refine (cloneB_calls _ _ _ m (Kd.C_below HM.out (Below.refl _ _).drew) (by have := HL.out; omega)).mono ?_
    intro e w1 hn
    obtain ⟨A1, c1', rfl, hcl, hR, hC, hb⟩ := hn.open_
    have HR1 := Aside0.mk hR
    have HB1 := Aside0.mk (show Below w.heap.size w w1 from below_step (Below.refl _ _).drew hb)
    clear hn hcl hR hC hb
    go_simp
    refine hK.out _ _ trivial (fun hHeld => ?_)
    clear hK K
    try simp only [Act.put, List.getElem_toArray, List.getElem_cons_zero, List.getElem_cons_succ, List.setIfInBounds_toArray, List.set_cons_zero, List.set_cons_succ]
    refine wpAnyH_ready (rs := [4, 7]) (by kernel_rfl) (by simp) ?_
    refine AllReadyH.cons rfl (fun K hK => ?_) (AllReadyH.cons rfl (fun K hK => ?_) AllReadyH.nil)
    · skip
      have c1 := (HB1.out.cell (p := ⟨p, 1, none⟩) (HZ.out.kb p HZ.out.kp).2).trans (HZ.out.cells).2.1
      go_simp
      refine hK.out _ _ trivial (fun hHeld => ?_)
      clear hK K
      try simp only [Act.put, List.getElem_toArray, List.getElem_cons_zero, List.getElem_cons_succ, List.setIfInBounds_toArray, List.set_cons_zero, List.set_cons_succ]
      refine wpAnyH_ready (rs := [7]) (by kernel_rfl) (by simp) ?_
      refine AllReadyH.cons rfl (fun K hK => ?_) AllReadyH.nil
      go_simp
      refine hK.out _ _ trivial (fun hHeld => ?_)
      clear hK K
      try simp only [Act.put, List.getElem_toArray, List.getElem_cons_zero, List.getElem_cons_succ, List.setIfInBounds_toArray, List.set_cons_zero, List.set_cons_succ]
      refine wpAnyH_ready (rs := [8]) (by kernel_rfl) (by simp) ?_
      refine AllReadyH.cons rfl (fun K hK => ?_) AllReadyH.nil
      refine Ro_append_step (W := w1) (w0 := w1) lo rfl _ _ rfl (.slice A N.out.length c) N.out m [.slice A1 m.length c1'] (fun k => KK k ∧ k ≠ p) (fun k => (KK k ∧ k ≠ p) ∨ w.heap.size ≤ k) (fun k => w.heap.size ≤ k) (fun k hk => .inl hk) rfl rfl (Kd.FK_of_M (d := kBs) ⟨_, rfl, Kd.R_mono (Kd.R_bound HR1.out) (fun k hk => hk.2.1)⟩) ?hok (fun k hk => .inr (Nat.le_trans HB1.out.size hk)) (HZ.out.ro.step (fun k _ hlt => HB1.out.block k hlt)) (Below.refl _ _) (Nat.le_trans HZ.out.low HB1.out.size) (by have := HO.out; omega) ?_
      case hok =>
        intro k hk
        exact ⟨.inr hk, fun h => by have := (HZ.out.kb k h.1).2; omega⟩
      intro v3 w3 hr3 hb3 hs3 hk3
      obtain ⟨A3, k3, hv3, _, _⟩ := hr3.reads
      subst hv3
      have HR3 := Aside0.mk hr3
      have HB3 := Aside0.mk hb3
      have HP3 := Aside0.mk (show w3.heap[p]? = some (.cells (enCells N A c) 50 (0, 0)) from (hk3 p (Nat.lt_of_lt_of_le (HZ.out.kb p HZ.out.kp).2 HB1.out.size) (fun e => e.elim (fun e => e.2 rfl) (fun e => by have := (HZ.out.kb p HZ.out.kp).2; omega))).trans ((HB1.out.block p (HZ.out.kb p HZ.out.kp).2).trans HZ.out.blk))
      have HK3 := Lib.hid (show ∀ k, k < w.heap.size → ¬ KK k → w3.heap[k]? = w.heap[k]? from fun k hk hn => (hk3 k (Nat.lt_of_lt_of_le hk HB1.out.size) (fun e => e.elim (fun e => hn e.1) (fun e => by omega))).trans (HB1.out.block k hk))
      have HS3 := Lib.hid (Nat.le_trans HB1.out.size hs3)
      clear hr3 hb3 hs3 hk3
      refine hK.out _ _ trivial (fun hHeld => ?_)
      clear hK K
      try simp only [Act.put, List.getElem_toArray, List.getElem_cons_zero, List.getElem_cons_succ, List.setIfInBounds_toArray, List.set_cons_zero, List.set_cons_succ]
      refine wpAnyH_take (i := 9) (v := ?_) rfl (by kernel_rfl) (by kernel_rfl) (by kernel_rfl) (fun _ _ _ h => h) (Or.inl ⟨by rfl, ?_⟩) trivial ?_
      rotate_left 1
      · first | (intro w hSw; go_simp; done) | (intro w hSw; go_simp; with_reducible rfl)
      try simp only [Act.put, List.getElem_toArray, List.getElem_cons_zero, List.getElem_cons_succ, List.setIfInBounds_toArray, List.set_cons_zero, List.set_cons_succ]
      refine wpAnyH_take (i := 10) (v := ?_) rfl (by kernel_rfl) (by kernel_rfl) (by kernel_rfl) (fun _ _ _ h => h) (Or.inl ⟨by rfl, ?_⟩) trivial ?_
      rotate_left 1
      · first | (intro w hSw; go_simp; done) | (intro w hSw; go_simp; with_reducible rfl)
      try simp only [Act.put, List.getElem_toArray, List.getElem_cons_zero, List.getElem_cons_succ, List.setIfInBounds_toArray, List.set_cons_zero, List.set_cons_succ]
      refine wpAnyH_ready (rs := [11]) (by kernel_rfl) (by simp) ?_
      refine AllReadyH.cons rfl (fun K hK => ?_) AllReadyH.nil
      have d1 : w3.cell? ⟨p, 1, none⟩ = some (.slice A N.out.length c) := blk_cell HP3.out 1
      have e1 := blk_frozen HP3.out 1
      go_simp
      refine hK.out _ _ trivial (fun hHeld => ?_)
      clear hK K
      try simp only [Act.put, List.getElem_toArray, List.getElem_cons_zero, List.getElem_cons_succ, List.setIfInBounds_toArray, List.set_cons_zero, List.set_cons_succ]
      refine wpAnyH_done (by kernel_rfl) ?_ _
      refine NoPanic.normal ?_
      go_wp2
      refine bodyPost_end (v := .tuple #[]) (by simp [results, Try.results19, go_sem]) rfl ?_
      obtain ⟨K9, hz9, hmv⟩ := send_end (m := m) HZ.out HR3.out HP3.out HK3.out HS3.out ((HB1.out.mono HZ.out.low).trans HB3.out)
      exact ⟨rfl, K9, hz9, hmv⟩
    · skip
      go_simp
      refine hK.out _ _ trivial (fun hHeld => ?_)
      clear hK K
      try simp only [Act.put, List.getElem_toArray, List.getElem_cons_zero, List.getElem_cons_succ, List.setIfInBounds_toArray, List.set_cons_zero, List.set_cons_succ]
      refine wpAnyH_ready (rs := [4]) (by kernel_rfl) (by simp) ?_
      refine AllReadyH.cons rfl (fun K hK => ?_) AllReadyH.nil
      have c1 : (w1.alloc (.cells #[.slice A1 m.length c1'] 29)).cell? ⟨p, 1, none⟩ = some (.slice A N.out.length c) := ((below_alloc HB1.out (.cells #[.slice A1 m.length c1'] 29)).cell (p := ⟨p, 1, none⟩) (HZ.out.kb p HZ.out.kp).2).trans (HZ.out.cells).2.1
      go_simp
      refine hK.out _ _ trivial (fun hHeld => ?_)
      clear hK K
      try simp only [Act.put, List.getElem_toArray, List.getElem_cons_zero, List.getElem_cons_succ, List.setIfInBounds_toArray, List.set_cons_zero, List.set_cons_succ]
      refine wpAnyH_ready (rs := [8]) (by kernel_rfl) (by simp) ?_
      refine AllReadyH.cons rfl (fun K hK => ?_) AllReadyH.nil
      refine Ro_append_step (W := w1) (w0 := w1) lo rfl _ _ rfl (.slice A N.out.length c) N.out m [.slice A1 m.length c1'] (fun k => KK k ∧ k ≠ p) (fun k => (KK k ∧ k ≠ p) ∨ w.heap.size ≤ k) (fun k => w.heap.size ≤ k) (fun k hk => .inl hk) rfl rfl (Kd.FK_of_M (d := kBs) ⟨_, rfl, Kd.R_mono (Kd.R_bound HR1.out) (fun k hk => hk.2.1)⟩) ?hok (fun k hk => .inr (Nat.le_trans HB1.out.size hk)) (HZ.out.ro.step (fun k _ hlt => HB1.out.block k hlt)) (Below.refl _ _) (Nat.le_trans HZ.out.low HB1.out.size) (by have := HO.out; omega) ?_
      case hok =>
        intro k hk
        exact ⟨.inr hk, fun h => by have := (HZ.out.kb k h.1).2; omega⟩
      intro v3 w3 hr3 hb3 hs3 hk3
      obtain ⟨A3, k3, hv3, _, _⟩ := hr3.reads
      subst hv3
      have HR3 := Aside0.mk hr3
      have HB3 := Aside0.mk hb3
      have HP3 := Aside0.mk (show w3.heap[p]? = some (.cells (enCells N A c) 50 (0, 0)) from (hk3 p (Nat.lt_of_lt_of_le (HZ.out.kb p HZ.out.kp).2 HB1.out.size) (fun e => e.elim (fun e => e.2 rfl) (fun e => by have := (HZ.out.kb p HZ.out.kp).2; omega))).trans ((HB1.out.block p (HZ.out.kb p HZ.out.kp).2).trans HZ.out.blk))
      have HK3 := Lib.hid (show ∀ k, k < w.heap.size → ¬ KK k → w3.heap[k]? = w.heap[k]? from fun k hk hn => (hk3 k (Nat.lt_of_lt_of_le hk HB1.out.size) (fun e => e.elim (fun e => hn e.1) (fun e => by omega))).trans (HB1.out.block k hk))
      have HS3 := Lib.hid (Nat.le_trans HB1.out.size hs3)
      clear hr3 hb3 hs3 hk3
      refine hK.out _ _ trivial (fun hHeld => ?_)
      clear hK K
      try simp only [Act.put, List.getElem_toArray, List.getElem_cons_zero, List.getElem_cons_succ, List.setIfInBounds_toArray, List.set_cons_zero, List.set_cons_succ]
      refine wpAnyH_take (i := 9) (v := ?_) rfl (by kernel_rfl) (by kernel_rfl) (by kernel_rfl) (fun _ _ _ h => h) (Or.inl ⟨by rfl, ?_⟩) trivial ?_
      rotate_left 1
      · first | (intro w hSw; go_simp; done) | (intro w hSw; go_simp; with_reducible rfl)
      try simp only [Act.put, List.getElem_toArray, List.getElem_cons_zero, List.getElem_cons_succ, List.setIfInBounds_toArray, List.set_cons_zero, List.set_cons_succ]
      refine wpAnyH_take (i := 10) (v := ?_) rfl (by kernel_rfl) (by kernel_rfl) (by kernel_rfl) (fun _ _ _ h => h) (Or.inl ⟨by rfl, ?_⟩) trivial ?_
      rotate_left 1
      · first | (intro w hSw; go_simp; done) | (intro w hSw; go_simp; with_reducible rfl)
      try simp only [Act.put, List.getElem_toArray, List.getElem_cons_zero, List.getElem_cons_succ, List.setIfInBounds_toArray, List.set_cons_zero, List.set_cons_succ]
      refine wpAnyH_ready (rs := [11]) (by kernel_rfl) (by simp) ?_
      refine AllReadyH.cons rfl (fun K hK => ?_) AllReadyH.nil
      have d1 : w3.cell? ⟨p, 1, none⟩ = some (.slice A N.out.length c) := blk_cell HP3.out 1
      have e1 := blk_frozen HP3.out 1
      go_simp
      refine hK.out _ _ trivial (fun hHeld => ?_)
      clear hK K
      try simp only [Act.put, List.getElem_toArray, List.getElem_cons_zero, List.getElem_cons_succ, List.setIfInBounds_toArray, List.set_cons_zero, List.set_cons_succ]
      refine wpAnyH_done (by kernel_rfl) ?_ _
      refine NoPanic.normal ?_
      go_wp2
      refine bodyPost_end (v := .tuple #[]) (by simp [results, Try.results19, go_sem]) rfl ?_
      obtain ⟨K9, hz9, hmv⟩ := send_end (m := m) HZ.out HR3.out HP3.out HK3.out HS3.out ((HB1.out.mono HZ.out.low).trans HB3.out)
      exact ⟨rfl, K9, hz9, hmv⟩
end Go.Proofs.Ytcdhjkkdenhmcaa
