/- link: fresh, Receive, Packet where there is nothing, Got, Sent. -/
import Derived.Test.YtcdhjkkdenhmcaaLkR
namespace Go.Proofs.Ytcdhjkkdenhmcaa
open Go.RowKit Go.Proofs.YtcdhjkkdenhmcaaW.PrintWords Go.Proofs.YtcdhjkkdenhmcaaW.PrintLast Go.Proofs.YtcdhjkkdenhmcaaW.PrintMore
attribute [local go_sem] max2_int min2_int max_two min_two
set_option linter.unusedVariables false
set_option linter.unusedSimpArgs false
def frs (got first : Nat) (ms : List (List UInt8)) : List (List UInt8) := if first ≤ got ∧ got - first < ms.length then ms.drop (got - first) else []
theorem frs_len (got first : Nat) (ms : List (List UInt8)) : (frs got first ms).length ≤ ms.length := by
  unfold frs
  split
  · rw [List.length_drop]; omega
  · simp
theorem Q_tail {w : World} {A : Option Addr} {c base k : Nat} {l : List (List UInt8)} (h : kBs.Q 29 w base (fun _ => True) (.slice A l.length c) l) (hk : k ≤ l.length) :
    ∃ A', (∀ W : World, (Instr.slice 22 (.slice A l.length c) (some (.int .i64 (k : Int))) none none).run Try.prog W = .ok (.slice A' (l.drop k).length (c - k)) W) ∧ kBs.Q 29 w base (fun _ => True) (.slice A' (l.drop k).length (c - k)) (l.drop k) := by
  have hq := Kd.Q_drop h hk
  refine ⟨if c = k then A else A.map (·.add (k * kBs.sz)), fun W => ?_, by rw [List.length_drop]; exact hq⟩
  obtain ⟨i0, hi0, hz0, hz1, hz2⟩ := info_parts info6
  have ht := Try.underlying22
  have hel : Try.prog.elem 22 = 29 := by simp [Program.elem, ht]
  have hu : Try.prog.underlying 22 = some (.slice (Try.prog.elem 22)) := by rw [hel]; exact ht
  rw [run_slice_l (w := W) 22 A l.length c hu .i64 (k : Int) (by omega) (by omega), hel, List.length_drop]
  have e1 : kBs.sz = 1 := rfl
  simp [sizeOf, typeInfo, hi0, hz1, sliced, Result.andThen, e1]
theorem Q_head {w : World} {A : Option Addr} {c base hi : Nat} {l : List (List UInt8)} (h : kBs.Q 29 w base (fun _ => True) (.slice A l.length c) l) (h2 : hi ≤ l.length) (y : Int) (hy : y = (hi : Int)) :
    ∃ A', (∀ W : World, (Instr.slice 22 (.slice A l.length c) none (some (.int .i64 y)) none).run Try.prog W = .ok (.slice A' (l.take hi).length c) W) ∧ kBs.Q 29 w base (fun _ => True) (.slice A' (l.take hi).length c) (l.take hi) := by
  subst hy
  have hl : (l.take hi).length = hi := by rw [List.length_take]; omega
  have hc := (Kd.Q_reads' h).2.1
  refine ⟨A, fun W => ?_, by rw [hl]; exact Kd.Q_take h h2⟩
  obtain ⟨i0, hi0, hz0, hz1, hz2⟩ := info_parts info6
  have ht := Try.underlying22
  have hel : Try.prog.elem 22 = 29 := by simp [Program.elem, ht]
  have hu : Try.prog.underlying 22 = some (.slice (Try.prog.elem 22)) := by rw [hel]; exact ht
  rw [run_slice_h (w := W) 22 A l.length c hu .i64 (hi : Int) (by omega) (by omega), hel, hl]
  have e1 : kBs.sz = 1 := rfl
  cases A with
  | none => simp [sizeOf, typeInfo, hi0, hz1, sliced, Result.andThen, e1]
  | some ad => simp [sizeOf, typeInfo, hi0, hz1, sliced, Result.andThen, e1, Addr.add]
set_option maxRecDepth 100000 in
theorem fresh_calls (w : World) (lo : Nat) (K : Nat → Prop) (N : En) (p base first c : Nat) (A : Option Addr) (ms : List (List UInt8)) (hF : EnFine N) (hE : IsEnd w lo K N p) (hq : kBs.Q 29 w base (fun _ => True) (.slice A ms.length c) ms) (hf : first ≤ 100000) (hl : ms.length ≤ 100) :
    Calls Try.prog 23 #[.pointer (some ⟨p, 0, none⟩), .int .i64 first, .slice A ms.length c] w fun e w' => ∃ A' c', e = .returned (.slice A' (frs N.got first ms).length c') ∧ kBs.Q 29 w base (fun _ => True) (.slice A' (frs N.got first ms).length c') (frs N.got first ms) ∧ w' = w := by
  obtain ⟨B, d, z⟩ := hE
  obtain ⟨c0, c1, c2, c3, c4, c5, c6⟩ := z.cells
  have h1 := hF.gl
  have HQ := Aside0.mk hq
  have b1 : (N.got : Int) ≤ 100000 := by omega
  have b0 : (0 : Int) ≤ N.got := by omega
  have b2 : (first : Int) ≤ 100000 := by omega
  have b3 : (0 : Int) ≤ first := by omega
  have b4 : (ms.length : Int) ≤ 100 := by omega
  obtain ⟨x, hx⟩ : ∃ x, x = (N.got : Int) := ⟨_, rfl⟩
  obtain ⟨y, hy⟩ : ∃ y, y = (first : Int) := ⟨_, rfl⟩
  rw [← hx] at c4 b1 b0
  rw [← hy] at b2 b3 ⊢
  by_cases g : first ≤ N.got ∧ N.got - first < ms.length
  · have hfr : frs N.got first ms = ms.drop (N.got - first) := if_pos g
    obtain ⟨k, hk⟩ : ∃ k, k = N.got - first := ⟨_, rfl⟩
    rw [← hk] at hfr
    obtain ⟨A', hrun, hq'⟩ := Q_tail hq (k := k) (by omega)
    have HQ' := Aside0.mk hq'
    have hkx : (k : Int) = x - y := by omega
    rw [hkx] at hrun
    have g1 : x - y ≥ 0 := by omega
    have g2 : x - y < ms.length := by omega
    have g1c : decide (x - y ≥ 0) = true := decide_eq_true g1
    have g2c : decide (x - y < ms.length) = true := decide_eq_true g2
    have g3 : 0 ≤ x - y := by omega
    rw [hfr]
    obtain ⟨dl, hdl⟩ : ∃ dl, dl = ms.drop k := ⟨_, rfl⟩
    rw [← hdl] at hrun HQ' ⊢
    clear hk hdl
    clear z hF hq hq' c0 c1 c2 c3 c5 c6 hx hy hf hl h1 hfr hkx g
    go_enter Try.func23, Try.ntmps23
    go_wp2
    go_ret
    exact ⟨A', c - k, rfl, HQ'.out, rfl⟩
  · have hfr : frs N.got first ms = [] := if_neg g
    rw [hfr]
    by_cases g1 : first ≤ N.got
    · have g1a : x - y ≥ 0 := by omega
      have g2 : ¬ x - y < ms.length := by omega
      have g1c : decide (x - y ≥ 0) = true := decide_eq_true g1a
      have g2c : decide (x - y < ms.length) = false := decide_eq_false g2
      have g3 : 0 ≤ x - y := by omega
      clear z hF hq c0 c1 c2 c3 c5 c6 hx hy hf hl h1 hfr g g1
      go_enter Try.func23, Try.ntmps23
      go_wp2
      go_ret
      exact ⟨none, 0, rfl, Kd.Q_nil _ _ _ _ _, rfl⟩
    · have g1a : ¬ x - y ≥ 0 := by omega
      have g1c : decide (x - y ≥ 0) = false := decide_eq_false g1a
      have g3 : ¬ 0 ≤ x - y := by omega
      clear z hF hq c0 c1 c2 c3 c5 c6 hx hy hf hl h1 hfr g g1
      go_enter Try.func23, Try.ntmps23
      go_wp2
      go_ret
      exact ⟨none, 0, rfl, Kd.Q_nil _ _ _ _ _, rfl⟩
def rcvd (got first : Nat) (most : Int) (ms : List (List UInt8)) : List (List UInt8) := (frs got first ms).take most.toNat
def En.recv (N : En) (a b : Nat) (most : Int) (ms : List (List UInt8)) : En := { N with tld := max N.tld a, rcv := N.rcv || decide (0 < ms.length), got := N.got + (rcvd N.got b most ms).length }
theorem EnFine.recv {N : En} (h : EnFine N) {a b : Nat} {most : Int} {ms : List (List UInt8)} (ha : a ≤ N.so) (hl : N.got + ms.length ≤ 100000) : EnFine (N.recv a b most ms) :=
  ⟨h.w1, h.w2, h.ol, h.so1, Nat.max_le.2 ⟨h.to1, ha⟩, by
    have h1 := frs_len N.got b ms
    have h2 : (rcvd N.got b most ms).length ≤ ms.length := by unfold rcvd; rw [List.length_take]; omega
    simp only [En.recv]; omega, Nat.le_trans h.sg1 (Nat.le_add_right _ _)⟩
set_option maxRecDepth 100000 in
set_option maxHeartbeats 2000000 in
theorem linkReceive_calls (w : World) (lo : Nat) (K : Nat → Prop) (N : En) (p a b c : Nat) (A : Option Addr) (ms : List (List UInt8)) (q : List UInt8) (most : Int) (hF : EnFine N) (hE : IsEnd w lo K N p) (hp : q = putAll (uintsF a ++ uintsF b) ms) (hx : kB.C w A q.length q) (hc : q.length ≤ c) (ha : a ≤ N.so) (hb : b ≤ 100000) (hs : ∀ m ∈ ms, m.length ≤ 1000) (hl : ms.length ≤ 100) :
    Calls Try.prog 12 #[.pointer (some ⟨p, 0, none⟩), .slice A q.length c, .int .i64 most] w fun e w' => ∃ A' c', e = .returned (.tuple #[.slice A' (rcvd N.got b most ms).length c', .nilIface]) ∧ kBs.Q 29 w' w.heap.size (fun _ => True) (.slice A' (rcvd N.got b most ms).length c') (rcvd N.got b most ms) ∧ IsEnd w' lo K (N.recv a b most ms) p ∧ Moved w w' lo K K := by
  obtain ⟨B, d, z⟩ := hE
  have HZ := Aside0.mk z
  have HF := Lib.hid hF
  have HS := Lib.hid hs
  have HP := Lib.hid hp
  have HX := Aside0.mk hx
  have HC := Lib.hid hc
  have HLN := Lib.hid hl
  have h1 := hF.ol
  have h2 := hF.so1
  have h3 := hF.to1
  have h4 := hF.sg1
  have h5 := hF.gl
  have b2 : (N.so : Int) ≤ 100000 := by omega
  have b3 : (N.tld : Int) ≤ N.so := by omega
  have b6 : (0 : Int) ≤ N.tld := by omega
  have b7 : (a : Int) ≤ N.so := by omega
  have b8 : (0 : Int) ≤ a := by omega
  have g1b : decide ((a : Int) > N.so) = false := decide_eq_false (by omega)
  have b9 : (ms.length : Int) ≤ 100 := by omega
  have HL0 := Lib.hid (HZ.out.low)
  have HA1 := Lib.hid (show a ≤ 100000 by omega)
  have HB1 := Lib.hid hb
  clear z hF hs hp hx hc hl h1 h2 h3 h4 h5 ha hb
  go_enter Try.func12, Try.ntmps12
  go_upto_region 4 with (go_at_call 22; refine (read_calls w A c a b ms q HP.out HX.out HC.out HA1.out HB1.out HS.out HLN.out).mono ?_; rintro e w1 ⟨v, rfl, hv, hbl⟩; obtain ⟨A1, c1, rfl, hc1, _⟩ := Kd.R_reads hv; have HV := Aside0.mk hv; have HB := Aside0.mk hbl; clear hv hbl hc1)
  have HZ1 := Aside0.mk (HZ.out.stay HB.out)
  have HM1 := Aside0.mk (show Moved w w1 lo K K from ⟨HB.out.mono HL0.out, ⟨HB.out.size, fun k hk _ => HB.out.block k hk⟩, fun k hk => .inl hk⟩)
  have c2 := HZ1.out.cells.2.2.1
  go_upto_region 6 with (fail)
  have c3 := HZ1.out.cells.2.2.2.1
  have f3 := blk_frozen HZ1.out.blk 3
  go_upto_region 7 with (fail)
  have hmx : (if N.tld < a then (a : Int) else N.tld) = ((max N.tld a : Nat) : Int) := by
    by_cases h : N.tld < a
    · rw [if_pos h, Nat.max_eq_right (by omega)]
    · rw [if_neg h, Nat.max_eq_left (by omega)]
  rw [hmx]
  obtain ⟨w2, hw2⟩ : ∃ w2, w2 = w1.setCell ⟨p, 3, none⟩ (.int .i64 ((max N.tld a : Nat) : Int)) := ⟨_, rfl⟩
  rw [← hw2]
  have HZ2 := Aside0.mk (show EndAt w2 lo K { N with tld := max N.tld a } p B d by rw [hw2]; exact HZ1.out.set 3 _ rfl HZ1.out.ro)
  have HM2 := Aside0.mk (show Moved w w2 lo K K by rw [hw2]; exact HM1.out.trans (moved_set HZ1.out 3 _))
  have HV2 := Aside0.mk (show kBs.R 29 w2 w.heap.size (fun _ => True) (.slice A1 ms.length c1) ms by rw [hw2]; exact Kd.R_mono (Kd.R_far (Kd.R_bound HV.out) (fun k hk => by have h1 := hk.2.1; have h2 := (HZ.out.kb p HZ.out.kp).2; show k ≠ p; omega) _) (fun _ _ => trivial))
  clear hw2 hmx c2 c3 f3
  have c6 := HZ2.out.cells.2.2.2.2.2.2
  have f6 := blk_frozen HZ2.out.blk 6
  simp only [] at c6
  obtain ⟨r, hr⟩ : ∃ r, r = N.rcv := ⟨_, rfl⟩
  rw [← hr] at c6
  obtain ⟨r', hr'⟩ : ∃ r', r' = (r || decide (0 < ms.length)) := ⟨_, rfl⟩
  have HR' := Lib.hid hr'
  have HRR := Lib.hid hr
  clear hr hr'
  cases r
  all_goals
    go_upto_region 8 with (fail)
    obtain ⟨w3, hw3⟩ : ∃ w3, w3 = w2.setCell ⟨p, 6, none⟩ (.bool r') := ⟨_, rfl⟩
    have hw3' := hw3
    rw [HR'.out] at hw3'
    simp only [Bool.true_or, Bool.false_or] at hw3'
    rw [← hw3']
    have HZ3 := Aside0.mk (show EndAt w3 lo K { N with tld := max N.tld a, rcv := r' } p B d by rw [hw3]; exact HZ2.out.set 6 (.bool r') rfl HZ2.out.ro)
    have HM3 := Aside0.mk (show Moved w w3 lo K K by rw [hw3]; exact HM2.out.trans (moved_set HZ2.out 6 _))
    have HV3 := Aside0.mk (show kBs.R 29 w3 w.heap.size (fun _ => True) (.slice A1 ms.length c1) ms by rw [hw3]; exact Kd.R_mono (Kd.R_far (Kd.R_bound HV2.out) (fun k hk => by have h1 := hk.2.1; have h2 := (HZ.out.kb p HZ.out.kp).2; show k ≠ p; omega) _) (fun _ _ => trivial))
    clear hw3 hw3' c6 f6
    have HF3 := Lib.hid (show EnFine { N with tld := max N.tld a, rcv := r' } from ⟨HF.out.w1, HF.out.w2, HF.out.ol, HF.out.so1, Nat.max_le.2 ⟨HF.out.to1, (by omega : a ≤ N.so)⟩, HF.out.gl, HF.out.sg1⟩)
    go_upto_region 9 with (go_at_call 23; refine (fresh_calls w3 lo K { N with tld := max N.tld a, rcv := r' } p w.heap.size b c1 A1 ms HF3.out ⟨_, _, HZ3.out⟩ (Kd.Q_of_R HV3.out) HB1.out HLN.out).mono ?_; rintro e w4 ⟨A2, c2, rfl, hv, rfl⟩; have HQ4 := Aside0.mk hv; clear hv)
    try simp only [] at HQ4
    try simp only []
    obtain ⟨fr, hfr⟩ : ∃ fr, fr = frs N.got b ms := ⟨_, rfl⟩
    rw [← hfr] at HQ4 ⊢
    have hfl : fr.length ≤ ms.length := by rw [hfr]; exact frs_len _ _ _
    have HFR := Lib.hid (show rcvd N.got b most ms = fr.take (min fr.length most.toNat) by
      rw [hfr]
      unfold rcvd
      rw [List.take_eq_take_iff]
      omega)
    have hfb : (fr.length : Int) ≤ 100 := by omega
    have hmi : (if (if most < 0 then 0 else most) < (fr.length : Int) then (if most < 0 then 0 else most) else (fr.length : Int)) = ((min fr.length most.toNat : Nat) : Int) := by
      by_cases h : most < 0
      · rw [if_pos h]
        split <;> omega
      · rw [if_neg h]
        split <;> omega
    obtain ⟨mi, hmin⟩ : ∃ mi, mi = min fr.length most.toNat := ⟨_, rfl⟩
    obtain ⟨y, hy⟩ : ∃ y, y = ((min fr.length most.toNat : Nat) : Int) := ⟨_, rfl⟩
    obtain ⟨A3, hrun, hq3⟩ := Q_head HQ4.out (hi := min fr.length most.toNat) (Nat.min_le_left _ _) y hy
    have HQ5 := Aside0.mk hq3
    rw [← HFR.out] at HQ5 hrun
    rw [← hy] at hmi
    clear hq3 hfl hfr hy hmin
    go_upto_region 10 with (fail)
    have hrl : (rcvd N.got b most ms).length ≤ 100 := by rw [HFR.out, List.length_take]; omega
    obtain ⟨rc, hrc⟩ : ∃ rc, rc = rcvd N.got b most ms := ⟨_, rfl⟩
    rw [← hrc] at HQ5 hrl hrun ⊢
    have HRC := Lib.hid hrc
    have c4 := HZ3.out.cells.2.2.2.2.1
    have f4 := blk_frozen HZ3.out.blk 4
    simp only [] at c4
    have e1 : (rc.length : Int) ≤ 100 := by omega
    have e2 : (N.got : Int) ≤ 100000 := by have := HF.out.gl; omega
    have e3 : (0 : Int) ≤ N.got := by omega
    obtain ⟨ng, hng⟩ : ∃ ng, ng = N.got + rc.length := ⟨_, rfl⟩
    have hsum : (N.got : Int) + rc.length = (ng : Int) := by omega
    have HNG := Lib.hid hng
    clear hrun hmi hfb hrc hrl hng
    go_wp2
    all_goals
      refine bodyPost_ret (v := .tuple #[.slice A3 rc.length c2, .nilIface]) (by simp [results, Try.results12, go_sem]) rfl ⟨A3, c2, by rw [HRC.out], ?_, ⟨B, d, ?_⟩, HM3.out.trans (moved_set HZ3.out 4 _)⟩
      · rw [← HRC.out]
        exact Kd.Q_mono (Kd.Q_far (Kd.Q_bound HQ5.out) (fun k hk => by have h1 := hk.2.1; have h2 := (HZ.out.kb p HZ.out.kp).2; show k ≠ p; omega) _) (fun _ _ => trivial)
      · have z := HZ3.out.set 4 (.int .i64 (ng : Int)) (N' := N.recv a b most ms) (A' := B) (c' := d) (by
          simp only [enCells, En.recv]
          rw [← HRC.out, HNG.out, ← HRR.out, HR'.out]
          rfl) HZ3.out.ro
        exact z
def En.sent (N : En) : En := { N with rcv := false }
theorem EnFine.sent {N : En} (h : EnFine N) : EnFine N.sent := ⟨h.w1, h.w2, h.ol, h.so1, h.to1, h.gl, h.sg1⟩
set_option maxRecDepth 100000 in
theorem linkPacketNone_calls (w : World) (lo : Nat) (K : Nat → Prop) (N : En) (p : Nat) (hF : EnFine N) (hE : IsEnd w lo K N p) (h1 : N.so ≤ N.tld) (h2 : N.rcv = false) :
    Calls Try.prog 10 #[.pointer (some ⟨p, 0, none⟩)] w fun e w' => e = .returned (.tuple #[.slice none 0 0, .bool false]) ∧ Drawn0 w w' := by
  obtain ⟨B, d, z⟩ := hE
  obtain ⟨c0, c1, c2, c3, c4, c5, c6⟩ := z.cells
  rw [h2] at c6
  have g1b : decide ((N.tld : Int) ≥ N.so) = true := decide_eq_true (by omega)
  have g1c : decide (N.so ≤ N.tld) = true := decide_eq_true h1
  have g1d : (N.tld : Int) ≥ N.so := by omega
  clear z hF c0 c1 c4 c5
  go_enter Try.func10, Try.ntmps10
  go_wp2
  go_quiet (fail)
  go_wp2
  go_ret2
  exact ⟨rfl, ⟨⟨_, rfl⟩⟩⟩
set_option maxRecDepth 100000 in
theorem linkGot_calls (w : World) (lo : Nat) (K : Nat → Prop) (N : En) (p : Nat) (hE : IsEnd w lo K N p) :
    Calls Try.prog 18 #[.pointer (some ⟨p, 0, none⟩)] w fun e w' => e = .returned (.int .i64 N.got) ∧ Drawn0 w w' := by
  obtain ⟨B, d, z⟩ := hE
  obtain ⟨c0, c1, c2, c3, c4, c5, c6⟩ := z.cells
  clear z c0 c1 c2 c3 c5 c6
  go_enter Try.func18, Try.ntmps18
  go_wp2
  go_ret
  exact ⟨rfl, ⟨⟨0, rfl⟩⟩⟩
end Go.Proofs.Ytcdhjkkdenhmcaa
