/- link: read of any bytes. -/
import Derived.Test.YtcdhjkkdenhmcaaDoorLkErr
namespace Go.Proofs.YtcdhjkkdenhmcaaDoor
open Go.RowKit Go.Proofs.YtcdhjkkdenhmcaaDoorW.PrintWords Go.Proofs.YtcdhjkkdenhmcaaDoorW.PrintLast Go.Proofs.YtcdhjkkdenhmcaaDoorW.PrintMore
set_option linter.unusedVariables false
set_option linter.unusedSimpArgs false
theorem takeB_bound (b : List UInt8) (f : Int) (h : (takeB b f).2.2 = .ok) : 0 ≤ f ∧ f < (takeB b f).2.1 ∧ (takeB b f).2.1 ≤ b.length ∧ (takeB b f).1.length ≤ b.length := by
  have hu := takeU_bound b f
  unfold takeB at h ⊢
  obtain ⟨t, ht⟩ : ∃ t, t = takeU b f := ⟨_, rfl⟩
  rw [← ht] at h hu ⊢
  obtain ⟨x, n, er⟩ := t
  simp only at hu
  cases er with
  | ok =>
    simp only [] at h ⊢
    split
    · next h1 => rw [if_pos h1] at h; cases h
    · next h1 =>
      rw [if_neg h1] at h
      split
      · next h2 => rw [if_pos h2] at h; cases h
      · next h2 =>
        have := hu.2.2.2.2 rfl
        refine ⟨this.1, by simp only []; omega, by simp only []; omega, ?_⟩
        simp only [List.length_drop, List.length_take]
        omega
  | num c => cases h
  | at_ kind k c => cases h
def ReadPost (w : World) (e : Ending) (w' : World) : Prop :=
  (e = .returned (.tuple #[.int .i64 0, .int .i64 0, .slice none 0 0, .iface 32 (.int .i64 3)]) ∨ ∃ (a b : Nat) (ms : List (List UInt8)) (v : Value), e = .returned (.tuple #[.int .i64 a, .int .i64 b, v, .nilIface]) ∧ a ≤ 1099511627776 ∧ b ≤ 1099511627776 ∧ ms.length ≤ 1000 ∧ kBs.R 22 w' w.heap.size (fun _ => True) v ms) ∧ Below w.heap.size w w'
set_option maxRecDepth 100000 in
set_option maxHeartbeats 2000000 in
theorem read_gen (w : World) (A : Option Addr) (c : Nat) (p : List UInt8) (hx : kB.C w A p.length p) (hc : p.length ≤ c) (hl : p.length ≤ 1000) :
    Calls Tryd.prog 24 #[.slice A p.length c] w (ReadPost w) := by
  have HX := Aside0.mk hx
  have HC := Lib.hid hc
  have HPL := Lib.hid hl
  have pl : (p.length : Int) ≤ 1000 := by omega
  have HB0 := Lib.hid (takeU_bound p 0)
  obtain ⟨t1, ht1⟩ : ∃ t1, t1 = takeU p 0 := ⟨_, rfl⟩
  rw [← ht1] at HB0
  obtain ⟨a, n1, er1⟩ := t1
  have HT1 := Lib.hid ht1
  clear hx hc hl ht1
  go_enter Tryd.func24, Tryd.ntmps24
  go_upto_region 2 with (go_at_call 30; refine (takeUint_calls w _ _ p 0 HX.out HC.out (by have := HPL.out; omega)).mono ?_; intro e w2 h; unfold TakeUPost at h; rw [← HT1.out] at h; obtain ⟨v, rfl, hv, hb⟩ := h; have HV := Aside0.mk hv; have H2 := Aside0.mk hb; clear hv hb)
  by_cases he1 : er1 = .ok
  rotate_left 1
  · obtain ⟨ta, ua, rfl⟩ := IsEr.bad HV.out he1
    clear he1 HV
    go_wp2
    exact bodyPost_ret (v := .tuple #[.int .i64 0, .int .i64 0, .slice none 0 0, .iface 32 (.int .i64 3)]) (by simp [results, Tryd.results24, go_sem]) rfl ⟨.inl rfl, H2.out⟩
  subst he1
  obtain rfl := HV.out
  obtain ⟨b1, b2, b3, b4, b5⟩ := HB0.out
  simp only at b1 b2 b3 b4 b5
  have b6 := (b5 trivial).2
  clear HV HB0 HT1 b4 b5
  have b1' : (a : Int) ≤ 18446744073709551615 := by omega
  by_cases g1 : (a : Int) > 1099511627776
  · have g1c : decide ((a : Int) > 1099511627776) = true := decide_eq_true g1
    have g1d : a > 1099511627776 := by omega
    clear b1
    go_wp2
    exact bodyPost_ret (v := .tuple #[.int .i64 0, .int .i64 0, .slice none 0 0, .iface 32 (.int .i64 3)]) (by simp [results, Tryd.results24, go_sem]) rfl ⟨.inl rfl, H2.out⟩
  have g1c : decide ((a : Int) > 1099511627776) = false := decide_eq_false g1
  have g1d : ¬ a > 1099511627776 := by omega
  have HA := Lib.hid (show a ≤ 1099511627776 by omega)
  clear b1
  have HB0 := Lib.hid (takeU_bound p n1)
  obtain ⟨t1, ht1⟩ : ∃ t1, t1 = takeU p n1 := ⟨_, rfl⟩
  rw [← ht1] at HB0
  obtain ⟨b, n2, er2⟩ := t1
  have HT2 := Lib.hid ht1
  clear ht1
  go_upto_region 5 with (go_at_call 30; refine (takeUint_calls w2 _ _ p n1 (Kd.C_below HX.out H2.out) HC.out (by have := HPL.out; omega)).mono ?_; intro e w3 h; unfold TakeUPost at h; rw [← HT2.out] at h; obtain ⟨v, rfl, hv, hb⟩ := h; have HV := Aside0.mk hv; have H3 := Aside0.mk (below_step H2.out hb); clear hv hb)
  clear b1' b2 b3 b6 g1c
  by_cases he2 : er2 = .ok
  rotate_left 1
  · obtain ⟨ta, ua, rfl⟩ := IsEr.bad HV.out he2
    clear he2 HV
    go_wp2
    exact bodyPost_ret (v := .tuple #[.int .i64 0, .int .i64 0, .slice none 0 0, .iface 32 (.int .i64 3)]) (by simp [results, Tryd.results24, go_sem]) rfl ⟨.inl rfl, H3.out⟩
  subst he2
  obtain rfl := HV.out
  obtain ⟨b1, b2, b3, b4, b5⟩ := HB0.out
  simp only at b1 b2 b3 b4 b5
  have b6 := (b5 trivial).2
  clear HV HB0 HT2 b4 b5
  have b1' : (b : Int) ≤ 18446744073709551615 := by omega
  by_cases g2 : (b : Int) > 1099511627776
  · have g2c : decide ((b : Int) > 1099511627776) = true := decide_eq_true g2
    have g2d : b > 1099511627776 := by omega
    clear b1
    go_wp2
    exact bodyPost_ret (v := .tuple #[.int .i64 0, .int .i64 0, .slice none 0 0, .iface 32 (.int .i64 3)]) (by simp [results, Tryd.results24, go_sem]) rfl ⟨.inl rfl, H3.out⟩
  have g2c : decide ((b : Int) > 1099511627776) = false := decide_eq_false g2
  have g2d : ¬ b > 1099511627776 := by omega
  have HBB := Lib.hid (show b ≤ 1099511627776 by omega)
  obtain ⟨n2, rfl⟩ := Int.eq_ofNat_of_zero_le b2
  have HN2 := Lib.hid (show n2 ≤ p.length by omega)
  clear b1
  have wa1 : IntKind.i64.wrap (a : Int) = a := by rw [IntKind.wrap_i64]; omega
  have wb1 : IntKind.i64.wrap (b : Int) = b := by rw [IntKind.wrap_i64]; omega
  go_wp2
  clear b1' b2 b3 b6 g2c
  go_loopw [7, 8, 10] (fun v7 v8 v10 wr => ∃ (ms : List (List UInt8)) (n : Nat), v7 = .int .i64 n ∧ v8 = .nilIface ∧ Hid (ms.length ≤ n ∧ n ≤ p.length) ∧ Aside0 (kBs.R 22 wr w.heap.size (fun _ => True) v10 ms) ∧ Aside0 (Below w.heap.size w wr)) (fun v _ _ _ => p.length - (intOf v).toNat)
  case atStart => exact ⟨[], n2, rfl, rfl, ⟨Nat.zero_le _, HN2.out⟩, ⟨Kd.R_nil _ _ _ _ _⟩, H3⟩
  case round =>
    obtain ⟨ms, n, rfl, rfl, HN, HK, HB⟩ := hrel
    by_cases hlt : n < p.length
    · have k1 : (n : Int) < p.length := by omega
      have n0 : (0 : Int) ≤ n := by omega
      have HTB := Lib.hid (takeB_bound p (n : Int))
      obtain ⟨t, ht⟩ : ∃ t, t = takeB p (n : Int) := ⟨_, rfl⟩
      rw [← ht] at HTB
      obtain ⟨m, n', er⟩ := t
      have HT := Lib.hid ht
      clear ht hlt
      go_upto_region 11 with (go_at_call 31; refine (takeBytes_calls _ _ _ p (n : Int) (Kd.C_below HX.out HB.out) HC.out (by have := HPL.out; omega)).mono ?_; intro e w4 h; unfold TakeBPost at h; rw [← HT.out] at h; obtain ⟨q, v, rfl, hq, hv, hb⟩ := h; obtain ⟨A1, c1, rfl, hc1, _⟩ := Kd.R_reads hq; have HQ := Aside0.mk hq; have HV := Aside0.mk hv; have HC1 := Lib.hid hc1; have HB4 := Aside0.mk hb; clear hq hc1 hb hv)
      by_cases he : er = .ok
      rotate_left 1
      · obtain ⟨ta, ua, rfl⟩ := IsEr.bad HV.out he
        clear he HV
        go_wp2
        exact bodyPost_ret (v := .tuple #[.int .i64 0, .int .i64 0, .slice none 0 0, .iface 32 (.int .i64 3)]) (by simp [results, Tryd.results24, go_sem]) rfl ⟨.inl rfl, below_step HB.out HB4.out⟩
      subst he
      obtain rfl := HV.out
      obtain ⟨d1, d2, d3, d4⟩ := HTB.out rfl
      try simp only at d1 d2 d3 d4
      obtain ⟨n', rfl⟩ := Int.eq_ofNat_of_zero_le (show 0 ≤ n' by omega)
      have HN' := Lib.hid (show n < n' ∧ n' ≤ p.length by omega)
      have HKL := Lib.hid (show ms.length ≤ 1000 by have := HN.out; have := HPL.out; omega)
      clear HV HTB HT d1 d2 d3 d4
      go_wp2_with (at_builtin; refine Kd.R_append kBs (w0 := w) (W := w4) w.heap.size rfl _ _ 39 22 (.slice none 0 0) 24 rfl Tryd.underlying39 info6 rfl (by decide) (by omega) _ ms m [.slice A1 m.length c1] (fun _ => True) (fun k => wr.heap.size ≤ k) rfl rfl ⟨_, rfl, Kd.R_lower (Kd.R_mono (Kd.R_bound HQ.out) (fun k hk => hk.2.1)) HB.out.size⟩ ?hok (fun _ _ => trivial) (by exact Kd.R_below HK.out HB4.out) (below_step HB.out HB4.out) (Nat.le_trans HB.out.size HB4.out.size) (by have := HKL.out; omega) ?_; (case hok => intro k hk; refine ⟨trivial, fun h => ?_⟩; have := ((Kd.R_bound HK.out).1 k h.symm).2.2.1; omega); intro v5 w5 hr hb5 hg5 hat5; have HR5 := Aside0.mk hr; have HB5 := Aside0.mk hb5; clear hr hb5 hg5 hat5)
      go_roundw
      case rel => exact ⟨ms ++ [m], n', rfl, rfl, ⟨by have h1 := HN'.out; have h2 := HN.out; simp only [List.length_append, List.length_cons, List.length_nil]; omega, HN'.out.2⟩, HR5, HB5⟩
      case measure => have h1 := HN'.out; simp [intOf]; omega
    · have k1 : ¬ (n : Int) < p.length := by omega
      have HML := Lib.hid (show ms.length ≤ 1000 by have := HN.out; have := HPL.out; omega)
      clear hlt
      go_wp2
      exact bodyPost_ret (v := .tuple #[.int .i64 a, .int .i64 b, u10, .nilIface]) (by simp [results, Tryd.results24, go_sem]) rfl ⟨.inr ⟨a, b, ms, _, rfl, HA.out, HBB.out, HML.out, HK.out⟩, HB.out⟩
end Go.Proofs.YtcdhjkkdenhmcaaDoor
