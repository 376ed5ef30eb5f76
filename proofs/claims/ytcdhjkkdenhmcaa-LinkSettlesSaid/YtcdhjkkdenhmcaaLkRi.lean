/- link: right. -/
import Derived.Test.YtcdhjkkdenhmcaaLkRcv
namespace Go.Proofs.Ytcdhjkkdenhmcaa
open Go.RowKit Go.Proofs.YtcdhjkkdenhmcaaW.PrintWords Go.Proofs.YtcdhjkkdenhmcaaW.PrintLast Go.Proofs.YtcdhjkkdenhmcaaW.PrintMore
set_option linter.unusedVariables false
set_option linter.unusedSimpArgs false
set_option maxRecDepth 100000 in
set_option maxHeartbeats 2000000 in
theorem right_calls (w : World) (lo : Nat) (Ka : Nat → Prop) (W : Nat) (x : Sd) (pa : Nat) (Au Ao Ai : Option Addr) (cu co ci : Nat) (hF : EnFine (enOf W x)) (hE : IsEnd w lo Ka (enOf W x) pa) (hi : x.inn.length ≤ 100000) :
    Calls Try.prog 25 #[.agg (sdC x pa Au cu Ao co Ai ci)] w fun e w' => e = .returned (.bool true) ∧ Below w.heap.size w w' := by
  have h1 : x.out.length ≤ 100000 := hF.ol
  have h2 : x.so ≤ x.out.length := hF.so1
  have h3 : x.tld ≤ x.so := hF.to1
  have b1 : (x.out.length : Int) ≤ 100000 := by omega
  have b2 : (x.so : Int) ≤ 100000 := by omega
  have b3 : (x.tld : Int) ≤ 100000 := by omega
  have b4 : (x.inn.length : Int) ≤ 100000 := by omega
  have HE := Aside0.mk hE
  have HF := Lib.hid hF
  clear h1 h2 h3 hF hE
  go_enter Try.func25, Try.ntmps25
  go_upto_region 1 with (fail)
  obtain ⟨w0, hw0⟩ : ∃ w0, w0 = w.alloc (.cells (sdC x pa Au cu Ao co Ai ci) 43) := ⟨_, rfl⟩
  rw [← hw0]
  have HG := Aside0.mk (show w0.heap[w.heap.size]? = some (.cells (sdC x pa Au cu Ao co Ai ci) 43 (0, 0)) by rw [hw0]; exact heap_alloc_new _ _)
  have HB0 := Aside0.mk (show Below w.heap.size w w0 by rw [hw0]; exact below_alloc (Below.refl _ _) _)
  have HE0 := Aside0.mk (HE.out.stay HB0.out)
  obtain ⟨⟨c0, c1, c2, c3, c4, c5, c6⟩, _⟩ := cells7 HG.out
  clear hw0 HE
  obtain ⟨ys, hys⟩ : ∃ ys, ys = (x.so : Int) := ⟨_, rfl⟩
  obtain ⟨yt, hyt⟩ : ∃ yt, yt = (x.tld : Int) := ⟨_, rfl⟩
  have y0 : 0 ≤ ys := by omega
  have y1 : 0 ≤ yt := by omega
  rw [← hys] at c4 b2
  rw [← hyt] at c6 b3
  have HO := Lib.hid (fun n => (linkOpen_calls (w0.drewN n) lo Ka (enOf W x) pa HF.out (HE0.out.stay (pw_below_drewN (Below.refl _ _) _))).mono (fun e w' h => (⟨by rw [hys, hyt]; exact h.1, h.2.out⟩ : e = .returned (.int .i64 (ys - yt)) ∧ ∃ m, w' = (w0.drewN n).drewN m)))
  have HS := Lib.hid (fun n => (linkSent_calls (w0.drewN n) lo Ka (enOf W x) pa (HE0.out.stay (pw_below_drewN (Below.refl _ _) _)) HF.out).mono (fun e w' h => (⟨h.1, h.2.out⟩ : e = .returned (.int .i64 (x.out.length : Int)) ∧ ∃ m, w' = (w0.drewN n).drewN m)))
  have HT := Lib.hid (fun n => (linkGot_calls (w0.drewN n) lo Ka (enOf W x) pa (HE0.out.stay (pw_below_drewN (Below.refl _ _) _))).mono (fun e w' h => (⟨h.1, h.2.out⟩ : e = .returned (.int .i64 (x.inn.length : Int)) ∧ ∃ m, w' = (w0.drewN n).drewN m)))
  clear hys hyt hi
  go_quiet (first
    | (go_at_call 37; exact Calls.quiet_of (HS.out _))
    | (go_at_call 18; exact Calls.quiet_of (HT.out _))
    | (go_at_call 11; exact Calls.quiet_of (HO.out _)))
  go_wp2
  go_ret
  exact ⟨rfl, pw_below_drewN HB0.out _⟩
end Go.Proofs.Ytcdhjkkdenhmcaa
