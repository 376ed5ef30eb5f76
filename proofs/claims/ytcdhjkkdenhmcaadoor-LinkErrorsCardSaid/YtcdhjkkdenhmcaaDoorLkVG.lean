/- link: fresh and Receive, whatever bytes come. -/
import Derived.Test.YtcdhjkkdenhmcaaDoorLkRG
namespace Go.Proofs.YtcdhjkkdenhmcaaDoor
open Go.RowKit Go.Proofs.YtcdhjkkdenhmcaaDoorW.PrintWords Go.Proofs.YtcdhjkkdenhmcaaDoorW.PrintLast Go.Proofs.YtcdhjkkdenhmcaaDoorW.PrintMore
attribute [local go_sem] max2_int min2_int max_two min_two
set_option linter.unusedVariables false
set_option linter.unusedSimpArgs false
set_option maxRecDepth 100000 in
theorem fresh_gen (w : World) (lo : Nat) (K : Nat → Prop) (N : En) (p base first c : Nat) (A : Option Addr) (ms : List (List UInt8)) (hF : EnFine N) (hE : IsEnd w lo K N p) (hq : kBs.Q 22 w base (fun _ => True) (.slice A ms.length c) ms) (hf : first ≤ 1099511627776) (hl : ms.length ≤ 1000) :
    Calls Tryd.prog 25 #[.pointer (some ⟨p, 0, none⟩), .int .i64 first, .slice A ms.length c] w fun e w' => ∃ A' c', e = .returned (.slice A' (frs N.got first ms).length c') ∧ kBs.Q 22 w base (fun _ => True) (.slice A' (frs N.got first ms).length c') (frs N.got first ms) ∧ w' = w := by
  obtain ⟨B, d, z⟩ := hE
  obtain ⟨c0, c1, c2, c3, c4, c5, c6⟩ := z.cells
  have h1 := hF.gl
  have HQ := Aside0.mk hq
  have b1 : (N.got : Int) ≤ 100000 := by omega
  have b0 : (0 : Int) ≤ N.got := by omega
  have b2 : (first : Int) ≤ 1099511627776 := by omega
  have b3 : (0 : Int) ≤ first := by omega
  have b4 : (ms.length : Int) ≤ 1000 := by omega
  obtain ⟨x, hx⟩ : ∃ x, x = (N.got : Int) := ⟨_, rfl⟩
  obtain ⟨y, hy⟩ : ∃ y, y = (first : Int) := ⟨_, rfl⟩
  rw [← hx] at c4 b1 b0
  rw [← hy] at b2 b3 ⊢
  by_cases g : first ≤ N.got ∧ N.got - first < ms.length
  · have hfr : frs N.got first ms = ms.drop (N.got - first) := if_pos g
    obtain ⟨k, hk⟩ : ∃ k, k = N.got - first := ⟨_, rfl⟩
    rw [← hk] at hfr
    obtain ⟨A', hrun, hq'⟩ := Q_tail hq (k := k) (by omega)
    have HQ' := Aside0.mk hq'
    have hkx : (k : Int) = x - y := by omega
    rw [hkx] at hrun
    have g1 : x - y ≥ 0 := by omega
    have g2 : x - y < ms.length := by omega
    have g1c : decide (x - y ≥ 0) = true := decide_eq_true g1
    have g2c : decide (x - y < ms.length) = true := decide_eq_true g2
    have g3 : 0 ≤ x - y := by omega
    rw [hfr]
    obtain ⟨dl, hdl⟩ : ∃ dl, dl = ms.drop k := ⟨_, rfl⟩
    rw [← hdl] at hrun HQ' ⊢
    clear hk hdl
    clear z hF hq hq' c0 c1 c2 c3 c5 c6 hx hy hf hl h1 hfr hkx g
    go_enter Tryd.func25, Tryd.ntmps25
    go_wp2
    go_ret
    exact ⟨A', c - k, rfl, HQ'.out, rfl⟩
  · have hfr : frs N.got first ms = [] := if_neg g
    rw [hfr]
    by_cases g1 : first ≤ N.got
    · have g1a : x - y ≥ 0 := by omega
      have g2 : ¬ x - y < ms.length := by omega
      have g1c : decide (x - y ≥ 0) = true := decide_eq_true g1a
      have g2c : decide (x - y < ms.length) = false := decide_eq_false g2
      have g3 : 0 ≤ x - y := by omega
      clear z hF hq c0 c1 c2 c3 c5 c6 hx hy hf hl h1 hfr g g1
      go_enter Tryd.func25, Tryd.ntmps25
      go_wp2
      go_ret
      exact ⟨none, 0, rfl, Kd.Q_nil _ _ _ _ _, rfl⟩
    · have g1a : ¬ x - y ≥ 0 := by omega
      have g1c : decide (x - y ≥ 0) = false := decide_eq_false g1a
      have g3 : ¬ 0 ≤ x - y := by omega
      clear z hF hq c0 c1 c2 c3 c5 c6 hx hy hf hl h1 hfr g g1
      go_enter Tryd.func25, Tryd.ntmps25
      go_wp2
      go_ret
      exact ⟨none, 0, rfl, Kd.Q_nil _ _ _ _ _, rfl⟩
def RecvPost (w : World) (lo : Nat) (K : Nat → Prop) (N : En) (p : Nat) (most : Int) (e : Ending) (w' : World) : Prop :=
  (e = .returned (.tuple #[.slice none 0 0, .iface 32 (.int .i64 3)]) ∧ IsEnd w' lo K N p ∨ ∃ A c n N', e = .returned (.tuple #[.slice A n c, .nilIface]) ∧ (n : Int) ≤ most.toNat ∧ N'.got = N.got + n ∧ EnFine N' ∧ IsEnd w' lo K N' p) ∧ Moved w w' lo K K
set_option maxRecDepth 100000 in
set_option maxHeartbeats 2000000 in
theorem receive_gen (w : World) (lo : Nat) (K : Nat → Prop) (N : En) (p c : Nat) (A : Option Addr) (q : List UInt8) (most : Int) (hF : EnFine N) (hg : N.got ≤ 50000) (hE : IsEnd w lo K N p) (hx : kB.C w A q.length q) (hc : q.length ≤ c) (hl : q.length ≤ 1000) :
    Calls Tryd.prog 12 #[.pointer (some ⟨p, 0, none⟩), .slice A q.length c, .int .i64 most] w (RecvPost w lo K N p most) := by
  obtain ⟨B, d, z⟩ := hE
  have HZ := Aside0.mk z
  have HF := Lib.hid hF
  have HX := Aside0.mk hx
  have HC := Lib.hid hc
  have HQL := Lib.hid hl
  have h1 := hF.ol
  have h2 := hF.so1
  have h3 := hF.to1
  have b2 : (N.so : Int) ≤ 100000 := by omega
  have b3 : (N.tld : Int) ≤ N.so := by omega
  have b6 : (0 : Int) ≤ N.tld := by omega
  have HL0 := Lib.hid (HZ.out.low)
  clear z hF hx hc hl h1 h2 h3
  go_enter Tryd.func12, Tryd.ntmps12
  go_upto_region 4 with (go_at_call 24; refine (read_gen w A c q HX.out HC.out HQL.out).mono ?_; intro e w1 hp; obtain ⟨r, hr⟩ : ∃ r : Unit, True := ⟨(), trivial⟩; obtain ⟨hp, hbl⟩ := hp; have HB := Aside0.mk hbl; clear hbl hr r; rcases hp with rfl | ⟨a, b, ms, v, rfl, ha0, hb0, hln, hv⟩)
  · go_wp2
    go_ret2
    exact ⟨.inl ⟨rfl, ⟨B, d, HZ.out.stay HB.out⟩⟩, HB.out.mono HL0.out, ⟨HB.out.size, fun k hk _ => HB.out.block k hk⟩, fun k hk => .inl hk⟩
  obtain ⟨A1, c1, rfl, hc1, _⟩ := Kd.R_reads hv
  have HV := Aside0.mk hv
  have HLN := Lib.hid hln
  have HB1 := Lib.hid hb0
  have b9 : (ms.length : Int) ≤ 1000 := by omega
  have b8 : (0 : Int) ≤ a := by omega
  have b8a : (a : Int) ≤ 1099511627776 := by omega
  clear hv hc1 hln ha0 hb0
  by_cases g1a : (a : Int) > N.so
  · have g1b : decide ((a : Int) > N.so) = true := decide_eq_true g1a
    have g1d : a > N.so := by omega
    have HZ1 := Aside0.mk (HZ.out.stay HB.out)
    have c2 := HZ1.out.cells.2.2.1
    go_wp2
    go_ret2
    exact ⟨.inl ⟨rfl, ⟨B, d, HZ1.out⟩⟩, HB.out.mono HL0.out, ⟨HB.out.size, fun k hk _ => HB.out.block k hk⟩, fun k hk => .inl hk⟩
  have b7 : (a : Int) ≤ N.so := by omega
  have g1b : decide ((a : Int) > N.so) = false := decide_eq_false g1a
  have HA1 := Lib.hid (show a ≤ 100000 by omega)
  clear b8a
  have HZ1 := Aside0.mk (HZ.out.stay HB.out)
  have HM1 := Aside0.mk (show Moved w w1 lo K K from ⟨HB.out.mono HL0.out, ⟨HB.out.size, fun k hk _ => HB.out.block k hk⟩, fun k hk => .inl hk⟩)
  have c2 := HZ1.out.cells.2.2.1
  go_upto_region 6 with (fail)
  have c3 := HZ1.out.cells.2.2.2.1
  have f3 := blk_frozen HZ1.out.blk 3
  go_upto_region 7 with (fail)
  have hmx : (if N.tld < a then (a : Int) else N.tld) = ((max N.tld a : Nat) : Int) := by
    by_cases h : N.tld < a
    · rw [if_pos h, Nat.max_eq_right (by omega)]
    · rw [if_neg h, Nat.max_eq_left (by omega)]
  rw [hmx]
  obtain ⟨w2, hw2⟩ : ∃ w2, w2 = w1.setCell ⟨p, 3, none⟩ (.int .i64 ((max N.tld a : Nat) : Int)) := ⟨_, rfl⟩
  rw [← hw2]
  have HZ2 := Aside0.mk (show EndAt w2 lo K { N with tld := max N.tld a } p B d by rw [hw2]; exact HZ1.out.set 3 _ rfl HZ1.out.ro)
  have HM2 := Aside0.mk (show Moved w w2 lo K K by rw [hw2]; exact HM1.out.trans (moved_set HZ1.out 3 _))
  have HV2 := Aside0.mk (show kBs.R 22 w2 w.heap.size (fun _ => True) (.slice A1 ms.length c1) ms by rw [hw2]; exact Kd.R_mono (Kd.R_far (Kd.R_bound HV.out) (fun k hk => by have h1 := hk.2.1; have h2 := (HZ.out.kb p HZ.out.kp).2; show k ≠ p; omega) _) (fun _ _ => trivial))
  clear hw2 hmx c2 c3 f3
  have c6 := HZ2.out.cells.2.2.2.2.2.2
  have f6 := blk_frozen HZ2.out.blk 6
  simp only [] at c6
  obtain ⟨r, hr⟩ : ∃ r, r = N.rcv := ⟨_, rfl⟩
  rw [← hr] at c6
  obtain ⟨r', hr'⟩ : ∃ r', r' = (r || decide (0 < ms.length)) := ⟨_, rfl⟩
  have HR' := Lib.hid hr'
  have HRR := Lib.hid hr
  clear hr hr'
  cases r
  all_goals
    go_upto_region 8 with (fail)
    obtain ⟨w3, hw3⟩ : ∃ w3, w3 = w2.setCell ⟨p, 6, none⟩ (.bool r') := ⟨_, rfl⟩
    have hw3' := hw3
    rw [HR'.out] at hw3'
    simp only [Bool.true_or, Bool.false_or] at hw3'
    rw [← hw3']
    have HZ3 := Aside0.mk (show EndAt w3 lo K { N with tld := max N.tld a, rcv := r' } p B d by rw [hw3]; exact HZ2.out.set 6 (.bool r') rfl HZ2.out.ro)
    have HM3 := Aside0.mk (show Moved w w3 lo K K by rw [hw3]; exact HM2.out.trans (moved_set HZ2.out 6 _))
    have HV3 := Aside0.mk (show kBs.R 22 w3 w.heap.size (fun _ => True) (.slice A1 ms.length c1) ms by rw [hw3]; exact Kd.R_mono (Kd.R_far (Kd.R_bound HV2.out) (fun k hk => by have h1 := hk.2.1; have h2 := (HZ.out.kb p HZ.out.kp).2; show k ≠ p; omega) _) (fun _ _ => trivial))
    clear hw3 hw3' c6 f6
    have HF3 := Lib.hid (show EnFine { N with tld := max N.tld a, rcv := r' } from ⟨HF.out.w1, HF.out.w2, HF.out.ol, HF.out.so1, Nat.max_le.2 ⟨HF.out.to1, (by omega : a ≤ N.so)⟩, HF.out.gl, HF.out.sg1⟩)
    go_upto_region 9 with (go_at_call 25; refine (fresh_gen w3 lo K { N with tld := max N.tld a, rcv := r' } p w.heap.size b c1 A1 ms HF3.out ⟨_, _, HZ3.out⟩ (Kd.Q_of_R HV3.out) HB1.out HLN.out).mono ?_; rintro e w4 ⟨A2, c2, rfl, hv, rfl⟩; have HQ4 := Aside0.mk hv; clear hv)
    try simp only [] at HQ4
    try simp only []
    obtain ⟨fr, hfr⟩ : ∃ fr, fr = frs N.got b ms := ⟨_, rfl⟩
    rw [← hfr] at HQ4 ⊢
    have hfl : fr.length ≤ ms.length := by rw [hfr]; exact frs_len _ _ _
    have HFR := Lib.hid (show rcvd N.got b most ms = fr.take (min fr.length most.toNat) by
      rw [hfr]
      unfold rcvd
      rw [List.take_eq_take_iff]
      omega)
    have hfb : (fr.length : Int) ≤ 1000 := by omega
    have hmi : (if (if most < 0 then 0 else most) < (fr.length : Int) then (if most < 0 then 0 else most) else (fr.length : Int)) = ((min fr.length most.toNat : Nat) : Int) := by
      by_cases h : most < 0
      · rw [if_pos h]
        split <;> omega
      · rw [if_neg h]
        split <;> omega
    obtain ⟨mi, hmin⟩ : ∃ mi, mi = min fr.length most.toNat := ⟨_, rfl⟩
    obtain ⟨y, hy⟩ : ∃ y, y = ((min fr.length most.toNat : Nat) : Int) := ⟨_, rfl⟩
    obtain ⟨A3, hrun, hq3⟩ := Q_head HQ4.out (hi := min fr.length most.toNat) (Nat.min_le_left _ _) y hy
    have HQ5 := Aside0.mk hq3
    rw [← HFR.out] at HQ5 hrun
    rw [← hy] at hmi
    clear hq3 hfl hfr hy hmin
    go_upto_region 10 with (fail)
    have hrl : (rcvd N.got b most ms).length ≤ 1000 := by rw [HFR.out, List.length_take]; omega
    obtain ⟨rc, hrc⟩ : ∃ rc, rc = rcvd N.got b most ms := ⟨_, rfl⟩
    rw [← hrc] at HQ5 hrl hrun ⊢
    have HRC := Lib.hid hrc
    have c4 := HZ3.out.cells.2.2.2.2.1
    have f4 := blk_frozen HZ3.out.blk 4
    simp only [] at c4
    have e1 : (rc.length : Int) ≤ 1000 := by omega
    have e2 : (N.got : Int) ≤ 100000 := by have := HF.out.gl; omega
    have e3 : (0 : Int) ≤ N.got := by omega
    obtain ⟨ng, hng⟩ : ∃ ng, ng = N.got + rc.length := ⟨_, rfl⟩
    have hsum : (N.got : Int) + rc.length = (ng : Int) := by omega
    have HNG := Lib.hid hng
    clear hrun hmi hfb hrc hrl hng
    go_wp2
    all_goals
      refine bodyPost_ret (v := .tuple #[.slice A3 rc.length c2, .nilIface]) (by simp [results, Tryd.results12, go_sem]) rfl ⟨.inr ⟨A3, c2, rc.length, N.recv a b most ms, rfl, ?_, ?_, ?_, ⟨B, d, ?_⟩⟩, HM3.out.trans (moved_set HZ3.out 4 _)⟩
      · rw [HRC.out]; unfold rcvd; rw [List.length_take]; omega
      · show N.got + _ = _; rw [← HRC.out]
      · exact HF.out.recv (by omega) (by have := HLN.out; omega)
      · have z := HZ3.out.set 4 (.int .i64 (ng : Int)) (N' := N.recv a b most ms) (A' := B) (c' := d) (by
          simp only [enCells, En.recv]
          rw [← HRC.out, HNG.out, ← HRR.out, HR'.out]
          rfl) HZ3.out.ro
        exact z
end Go.Proofs.YtcdhjkkdenhmcaaDoor
