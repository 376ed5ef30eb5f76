/- link: Push, Packet. -/
import Derived.Test.YtcdhjkkdenhmcaaLkE
import Derived.Deep.RegionHeld3
namespace Go.Proofs.Ytcdhjkkdenhmcaa
open Go.RowKit Go.Proofs.YtcdhjkkdenhmcaaW.PrintWords Go.Proofs.YtcdhjkkdenhmcaaW.PrintLast Go.Proofs.YtcdhjkkdenhmcaaW.PrintMore
attribute [local go_sem] max2_int min2_int max_two min_two
set_option linter.unusedVariables false
set_option linter.unusedSimpArgs false
theorem Moved.drewN (w : World) (lo : Nat) (K : Nat → Prop) (n : Nat) : Moved w (w.drewN n) lo K K := ⟨pw_below_drewN (Below.refl _ _) _, ⟨Nat.le_refl _, fun _ _ _ => rfl⟩, fun _ h => .inl h⟩
theorem Below.keeps {B : Nat} {w w' : World} (h : Below B w w') {p : Addr} {v : Value} (hc : w.cell? p = some v) (hp : p.block < B) : w'.cell? p = some v := (h.cell hp).trans hc
theorem EnFine.push {N : En} (h : EnFine N) (m : List UInt8) (hl : N.out.length < 100000) : EnFine (N.push m) := ⟨h.w1, h.w2, by simp [En.push]; omega, by have := h.so1; simp [En.push]; omega, h.to1, h.gl, h.sg1⟩
set_option maxRecDepth 100000 in
theorem linkPush_calls (w : World) (lo : Nat) (K : Nat → Prop) (N : En) (p : Nat) (B : Option Addr) (d : Nat) (m : List UInt8) (hF : EnFine N) (hE : IsEnd w lo K N p) (hm : kB.C w B m.length m) (hl : m.length ≤ 65536) (hq : N.out.length < N.tld + 4096) :
    Calls Try.prog 9 #[.pointer (some ⟨p, 0, none⟩), .slice B m.length d] w fun e w' => e = .returned .nilIface ∧ ∃ K', IsEnd w' lo K' (N.push m) p ∧ Moved w w' lo K K' := by
  have HE := Aside0.mk hE
  have HF := Lib.hid hF
  have HM := Aside0.mk hm
  have HL := Lib.hid hl
  obtain ⟨A, c, z⟩ := hE
  obtain ⟨c0, c1, c2, c3, c4, c5, c6⟩ := z.cells
  have h1 := hF.ol
  have h2 := hF.so1
  have h3 := hF.to1
  have b0 : (m.length : Int) ≤ 65536 := by omega
  have b1 : decide ((m.length : Int) > 65536) = false := decide_eq_false (by omega)
  have b2 : (N.out.length : Int) ≤ 100000 := by omega
  have b3 : (N.tld : Int) ≤ N.out.length := by omega
  have b4 : decide ((N.out.length : Int) - N.tld ≥ 4096) = false := decide_eq_false (by omega)
  have b5 : (0 : Int) ≤ N.tld := by omega
  obtain ⟨y, hy⟩ : ∃ y, y = (N.tld : Int) := ⟨_, rfl⟩
  rw [← hy] at c3 b3 b4 b5
  clear z hF hm hl c0 c2 c4 c5 c6 h1 h2 h3 hq hy
  go_enter Try.func9, Try.ntmps9
  go_wp2
  go_quiet (fail)
  go_wp2_with (go_at_call 19; refine (linkSend_calls _ lo K N p _ _ m HF.out (HE.out.stay (pw_below_drewN (Below.refl _ _) _)) (Kd.C_drewN HM.out _) HL.out).mono ?_; rintro e w2 ⟨rfl, K2, hz2, hmv⟩; have HZ2 := Aside0.mk hz2; have HMV := Aside0.mk hmv; clear hz2 hmv)
  go_ret
  exact ⟨rfl, K2, HZ2.out, (Moved.drewN _ _ _ _).trans HMV.out⟩
/-- What a packet holds. -/
def wl (N : En) : List (List UInt8) := (N.out.take (min N.so (N.tld + N.win))).drop N.tld
def putAll (b : List UInt8) (l : List (List UInt8)) : List UInt8 := l.foldl (fun b m => b ++ uintsF m.length ++ m) b
theorem putAll_step (b : List UInt8) (l : List (List UInt8)) (k : Nat) (h : k < l.length) : putAll b (l.take (k + 1)) = putAll b (l.take k) ++ uintsF (gl l k).length ++ gl l k := by
  unfold putAll
  rw [List.take_succ_eq_append_getElem h, List.foldl_append, gl_get l k h]
  rfl
def pkt (N : En) : List UInt8 := putAll (uintsF N.sg ++ uintsF N.tld) (wl N)
theorem L_win {w : World} {A : Option Addr} {c lo hi : Nat} {l : List (List UInt8)} (h : kBs.C w A l.length l) (h1 : lo ≤ hi) (h2 : hi ≤ l.length) (hc : l.length ≤ c) :
    ∃ A', (∀ W : World, (Instr.slice 22 (.slice A l.length c) (some (.int .i64 (lo : Int))) (some (.int .i64 (hi : Int))) none).run Try.prog W = .ok (.slice A' ((l.take hi).drop lo).length (c - lo)) W) ∧ kBs.C w A' ((l.take hi).drop lo).length ((l.take hi).drop lo) := by
  have hl : ((l.take hi).drop lo).length = hi - lo := by rw [List.length_drop, List.length_take]; omega
  have hC := Kd.C_mid (k := kBs) h h1 h2 hc
  refine ⟨if c = lo then A else A.map (·.add (lo * kBs.sz)), fun W => ?_, hC⟩
  obtain ⟨i0, hi0, hz0, hz1, hz2⟩ := info_parts info6
  have ht := Try.underlying22
  have hel : Try.prog.elem 22 = 29 := by simp [Program.elem, ht]
  have hu : Try.prog.underlying 22 = some (.slice (Try.prog.elem 22)) := by rw [hel]; exact ht
  rw [run_slice_lh (w := W) 22 A l.length c hu .i64 .i64 (lo : Int) (hi : Int) (by omega) (by omega) (by omega), hel, hl]
  have e1 : kBs.sz = 1 := rfl
  simp [sizeOf, typeInfo, hi0, hz1, sliced, Result.andThen, e1]
end Go.Proofs.Ytcdhjkkdenhmcaa
