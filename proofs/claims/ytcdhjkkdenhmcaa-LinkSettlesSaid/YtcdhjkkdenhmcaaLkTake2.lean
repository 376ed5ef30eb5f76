/- wire: TakeInt, slices.Clone at []byte, TakeBytes. -/
import Derived.Test.YtcdhjkkdenhmcaaWTake
import Derived.Test.YtcdhjkkdenhmcaaLkPut
namespace Go.Proofs.Ytcdhjkkdenhmcaa
open Go.RowKit Go.Proofs.YtcdhjkkdenhmcaaW.PrintWords Go.Proofs.YtcdhjkkdenhmcaaW.PrintLast Go.Proofs.YtcdhjkkdenhmcaaW.PrintMore
set_option linter.unusedVariables false
set_option linter.unusedSimpArgs false

theorem takeU_bound (b : List UInt8) (f : Int) : (takeU b f).1 < 18446744073709551616 ∧ 0 ≤ (takeU b f).2.1 ∧ (takeU b f).2.1 ≤ b.length ∧ ((takeU b f).2.2 ≠ .ok → (takeU b f).1 = 0 ∧ (takeU b f).2.1 = 0) ∧ ((takeU b f).2.2 = .ok → 0 ≤ f ∧ f < (takeU b f).2.1) := by
  unfold takeU
  split
  · next h =>
    cases he : tkU (b.drop f.toNat) 0 0 with
    | ok x n =>
      have := tkU_bound _ 0 0 (by decide) (by decide) x n he
      rw [List.length_drop] at this
      simp
      omega
    | form i => simp
    | short => simp
  · simp

set_option maxRecDepth 100000 in
theorem cloneB_calls (w : World) (A : Option Addr) (c : Nat) (xs : List UInt8) (hr : kB.C w A xs.length xs) (hl : xs.length ≤ 1099511627776) :
    Calls Try.prog 27 #[.slice A xs.length c] w (NewBytes w xs) := by
  have HR := Lib.hid hr
  have HL := Lib.hid hl
  clear hl
  cases A with
  | none =>
    have h0 : xs = [] := by
      rcases Nat.eq_zero_or_pos xs.length with h | h
      · exact List.eq_nil_of_length_eq_zero h
      · obtain ⟨ad, h, _⟩ := hr.2.2 h; cases h
    subst h0
    have heq := fun W => Lib.run_eql_slice_nil (P := Try.prog) W 29 5 none 0 c 0 0 Try.underlying29
    clear hr
    go_enter Try.func27, Try.ntmps27
    go_wp2
    go_ret
    exact ⟨_, rfl, Kd.R_nil _ _ _ _ _, Below.refl _ _⟩
  | some ad =>
    have heq := fun W => Lib.run_eql_slice_nil (P := Try.prog) W 29 5 (some ad) xs.length c 0 0 Try.underlying29
    clear hr
    go_enter Try.func27, Try.ntmps27
    go_wp2_with (first
      | (at_builtin; refine app_bytes w.heap.size rfl _ _ rfl (.slice (some ⟨w.heap.size, 0, none⟩) 0 0) [] xs (some ad) xs.length c rfl rfl (B_empty w _ (Nat.le_refl _)) (Kd.C_alloc HR.out _) (by simp) (by have := HL.out; simp; omega) ?_; intro v1 w1 ho hb; have HO := Aside0.mk ho; have HB := Aside0.mk hb; clear ho hb))
    go_ret
    exact ⟨_, rfl, by simpa using HO.out, (below_alloc (Below.refl _ _) _).trans HB.out⟩

/-- b[lo:hi], without a case on the capacity. -/
theorem B_win {w : World} {A : Option Addr} {c lo hi : Nat} {b : List UInt8} (h : kB.C w A b.length b) (h1 : lo ≤ hi) (h2 : hi ≤ b.length) (hc : b.length ≤ c) (x y : Int) (hx : x = (lo : Int)) (hy : y = (hi : Int)) :
    ∃ A', (∀ W : World, (Instr.slice 29 (.slice A b.length c) (some (.int .i64 x)) (some (.int .i64 y)) none).run Try.prog W = .ok (.slice A' ((b.take hi).drop lo).length (c - lo)) W) ∧ kB.C w A' ((b.take hi).drop lo).length ((b.take hi).drop lo) ∧ ((b.take hi).drop lo).length ≤ c - lo := by
  subst hx hy
  have hl : ((b.take hi).drop lo).length = hi - lo := by rw [List.length_drop, List.length_take]; omega
  have hC := Kd.C_mid (k := kB) h h1 h2 hc
  refine ⟨if c = lo then A else A.map (·.add (lo * kB.sz)), fun W => ?_, hC, by omega⟩
  obtain ⟨i0, hi0, hz0, hz1, hz2⟩ := info_parts info5
  have ht := Try.underlying29
  have hel : Try.prog.elem 29 = 5 := by simp [Program.elem, ht]
  have hu : Try.prog.underlying 29 = some (.slice (Try.prog.elem 29)) := by rw [hel]; exact ht
  rw [run_slice_lh (w := W) 29 A b.length c hu .i64 .i64 (lo : Int) (hi : Int) (Int.natCast_nonneg _) (by omega) (by omega), hel, hl]
  have e1 : kB.sz = 1 := rfl
  simp [sizeOf, typeInfo, hi0, hz1, sliced, Result.andThen, e1]

/-- TakeBytes: the bytes, the place behind them, the error. -/
def takeB (b : List UInt8) (f : Int) : List UInt8 × Int × Er :=
  match takeU b f with
  | (x, n, .ok) => if 1048576 < x then ([], 0, .at_ 1 f 2) else if (b.length : Int) - n < x then ([], 0, .at_ 1 b.length 6) else ((b.take (n.toNat + x)).drop n.toNat, n + x, .ok)
  | (_, _, er) => ([], 0, er)
def TakeBPost (w : World) (b : List UInt8) (from_ : Int) (e : Ending) (w' : World) : Prop :=
  ∃ p v, e = .returned (.tuple #[p, .int .i64 (takeB b from_).2.1, v]) ∧ kB.R 5 w' w.heap.size (fun _ => True) p (takeB b from_).1 ∧ IsEr w' w.heap.size (takeB b from_).2.2 v ∧ Below w.heap.size w w'
set_option maxRecDepth 100000 in
set_option maxHeartbeats 1000000 in
theorem takeBytes_calls (w : World) (A : Option Addr) (c : Nat) (b : List UInt8) (from_ : Int) (hx : kB.C w A b.length b) (hc : b.length ≤ c) (hl : b.length ≤ 1099511627776) :
    Calls Try.prog 31 #[.slice A b.length c, .int .i64 from_] w (TakeBPost w b from_) := by
  have HX := Lib.hid hx
  have HC := Lib.hid hc
  have HL := Lib.hid hl
  have hl1 : (b.length : Int) ≤ 1099511627776 := by omega
  obtain ⟨t, ht⟩ : ∃ t, t = takeU b from_ := ⟨_, rfl⟩
  have hbd := takeU_bound b from_
  rw [← ht] at hbd
  obtain ⟨x, n, er⟩ := t
  have HT := Lib.hid ht
  obtain ⟨g1, g2, g3, g4, g5⟩ := hbd
  simp only at g1 g2 g3 g4 g5
  obtain ⟨n, rfl⟩ := Int.eq_ofNat_of_zero_le g2
  by_cases he : er = .ok
  · subst he
    have g6 := g5 rfl
    have x1 : (x : Int) ≤ 18446744073709551615 := by omega
    by_cases hm : 1048576 < x
    · have hm' : (1048576 : Int) < x := by omega
      have HE := Lib.hid (show takeB b from_ = ([], 0, .at_ 1 from_ 2) by unfold takeB; rw [← HT.out]; simp only []; rw [if_pos hm])
      clear hx hc hl ht hm g1 g2 g4 g5 g6
      go_enter Try.func31, Try.ntmps31
      go_wp2_with (first
        | (go_at_call 30; refine (takeUint_calls _ _ _ b from_ HX.out HC.out HL.out).mono ?_; intro e w1 h1; unfold TakeUPost at h1; rw [← HT.out] at h1; obtain ⟨v, rfl, hv, hb⟩ := h1; have HV : v = .nilIface := hv; subst HV; have HB := Aside0.mk hb; clear hv hb)
        | (go_at_call 39; refine (at_calls _ _ _).mono ?_; rintro e w2 ⟨v, rfl, hv, hb⟩; have HVV := Aside0.mk hv; have HBB := Aside0.mk hb; clear hv hb))
      go_ret3
      unfold TakeBPost
      rw [HE.out]
      exact ⟨_, _, rfl, Kd.R_nil _ _ _ _ _, IsEr.lower (er := .at_ 1 from_ 2) HVV.out HB.out.size, below_then HB.out HB.out.size HBB.out⟩
    · have hm' : ¬ (1048576 : Int) < x := by omega
      by_cases hs : (b.length : Int) - n < x
      · have HE := Lib.hid (show takeB b from_ = ([], 0, .at_ 1 b.length 6) by unfold takeB; rw [← HT.out]; simp only []; rw [if_neg hm, if_pos hs])
        clear hx hc hl ht hm g1 g2 g4 g5 g6
        go_enter Try.func31, Try.ntmps31
        go_wp2_with (first
          | (go_at_call 30; refine (takeUint_calls _ _ _ b from_ HX.out HC.out HL.out).mono ?_; intro e w1 h1; unfold TakeUPost at h1; rw [← HT.out] at h1; obtain ⟨v, rfl, hv, hb⟩ := h1; have HV : v = .nilIface := hv; subst HV; have HB := Aside0.mk hb; clear hv hb)
          | (go_at_call 39; refine (at_calls _ _ _).mono ?_; rintro e w2 ⟨v, rfl, hv, hb⟩; have HVV := Aside0.mk hv; have HBB := Aside0.mk hb; clear hv hb))
        go_ret3
        unfold TakeBPost
        rw [HE.out]
        exact ⟨_, _, rfl, Kd.R_nil _ _ _ _ _, IsEr.lower (er := .at_ 1 b.length 6) HVV.out HB.out.size, below_then HB.out HB.out.size HBB.out⟩
      · have HE := Lib.hid (show takeB b from_ = ((b.take (n + x)).drop n, (n : Int) + x, .ok) by unfold takeB; rw [← HT.out]; simp only []; rw [if_neg hm, if_neg hs]; rfl)
        obtain ⟨A', hcut, hD, hc2⟩ := B_win (lo := n) (hi := n + x) HX.out (by omega) (by omega) hc n ((n : Int) + x) rfl (by simp)
        obtain ⟨ys, hys⟩ : ∃ ys, ys = (b.take (n + x)).drop n := ⟨_, rfl⟩
        have hyl : ys.length ≤ 1099511627776 := by rw [hys, List.length_drop, List.length_take]; omega
        rw [← hys] at hcut hD hc2 HE
        have HD := Aside0.mk hD
        have HYL := Lib.hid hyl
        clear hx hc hl ht hm g1 g2 g4 g5 g6 hD hys hc2 hyl
        go_enter Try.func31, Try.ntmps31
        go_wp2_with (first
          | (go_at_call 30; refine (takeUint_calls _ _ _ b from_ HX.out HC.out HL.out).mono ?_; intro e w1 h1; unfold TakeUPost at h1; rw [← HT.out] at h1; obtain ⟨v, rfl, hv, hb⟩ := h1; have HV : v = .nilIface := hv; subst HV; have HB := Aside0.mk hb; clear hv hb)
          | (go_at_call 27; refine (cloneB_calls _ _ _ ys (Kd.C_below HD.out HB.out) HYL.out).mono ?_; rintro e w2 ⟨v, rfl, hv, hb⟩; have HVV := Aside0.mk hv; have HBB := Aside0.mk hb; clear hv hb))
        go_ret3
        unfold TakeBPost
        rw [HE.out]
        exact ⟨_, _, rfl, Kd.R_lower HVV.out HB.out.size, rfl, below_then HB.out HB.out.size HBB.out⟩
  · have HE := Lib.hid (show takeB b from_ = ([], 0, er) by
      unfold takeB; rw [← HT.out]
      cases er with
      | ok => exact absurd rfl he
      | num c => rfl
      | at_ kind k c => rfl)
    have HN := Lib.hid he
    clear hx hc hl ht g1 g2 g3 g4 g5 he
    go_enter Try.func31, Try.ntmps31
    go_wp2_with (go_at_call 30; refine (takeUint_calls _ _ _ b from_ HX.out HC.out HL.out).mono ?_; intro e w1 h1; unfold TakeUPost at h1; rw [← HT.out] at h1; obtain ⟨v, rfl, hv, hb⟩ := h1; obtain ⟨ta, ua, rfl⟩ := IsEr.bad hv HN.out; have HV := Aside0.mk hv; have HB := Aside0.mk hb; clear hv hb)
    go_ret3
    unfold TakeBPost
    rw [HE.out]
    exact ⟨_, _, rfl, Kd.R_nil _ _ _ _ _, HV.out, HB.out⟩
end Go.Proofs.Ytcdhjkkdenhmcaa
