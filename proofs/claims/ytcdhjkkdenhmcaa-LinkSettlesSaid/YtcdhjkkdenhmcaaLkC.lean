/- link: Crash, Sent. -/
import Derived.Test.YtcdhjkkdenhmcaaLkX
namespace Go.Proofs.Ytcdhjkkdenhmcaa
open Go.RowKit Go.Proofs.YtcdhjkkdenhmcaaW.PrintWords Go.Proofs.YtcdhjkkdenhmcaaW.PrintLast Go.Proofs.YtcdhjkkdenhmcaaW.PrintMore
set_option linter.unusedVariables false
set_option linter.unusedSimpArgs false
theorem L_hm (A : Option Addr) (n c k : Nat) (hk : k ≤ n) (hc : n ≤ c) (W : World) : (Instr.slice 22 (.slice A n c) none (some (.int .i64 (k : Int))) (some (.int .i64 (k : Int)))).run Try.prog W = .ok (.slice A k k) W := by
  obtain ⟨i0, hi0, hz0, hz1, hz2⟩ := info_parts info6
  have ht := Try.underlying22
  have hel : Try.prog.elem 22 = 29 := by simp [Program.elem, ht]
  have hu : Try.prog.underlying 22 = some (.slice (Try.prog.elem 22)) := by rw [hel]; exact ht
  rw [run_slice_hm (w := W) 22 A n c hu .i64 .i64 (k : Int) (k : Int) (by omega) (by omega) (by omega), hel]
  cases A with
  | none => simp [sizeOf, typeInfo, hi0, hz1, sliced, Result.andThen]
  | some ad => simp [sizeOf, typeInfo, hi0, hz1, sliced, Result.andThen, Addr.add]
def En.crash (N : En) : En := ⟨N.win, N.out.take N.so, N.so, 0, N.sg, N.sg, false⟩
theorem EnFine.crash {N : En} (h : EnFine N) : EnFine N.crash := ⟨h.w1, h.w2, by have := h.ol; simp only [En.crash, List.length_take]; omega, by have := h.so1; simp only [En.crash, List.length_take]; omega, Nat.zero_le _, Nat.le_trans h.sg1 h.gl, Nat.le_refl _⟩
theorem crash_end {w : World} {lo p c : Nat} {K : Nat → Prop} {N : En} {A : Option Addr} (z : EndAt w lo K N p A c) (hF : EnFine N) :
    IsEnd (((((((w.setCell ⟨p, 0, none⟩ (.int .i64 N.win)).setCell ⟨p, 1, none⟩ (.slice A N.so N.so)).setCell ⟨p, 2, none⟩ (.int .i64 N.so)).setCell ⟨p, 3, none⟩ (.int .i64 0)).setCell ⟨p, 4, none⟩ (.int .i64 N.sg)).setCell ⟨p, 5, none⟩ (.int .i64 N.sg)).setCell ⟨p, 6, none⟩ (.bool false)) lo K N.crash p ∧
    Moved w (((((((w.setCell ⟨p, 0, none⟩ (.int .i64 N.win)).setCell ⟨p, 1, none⟩ (.slice A N.so N.so)).setCell ⟨p, 2, none⟩ (.int .i64 N.so)).setCell ⟨p, 3, none⟩ (.int .i64 0)).setCell ⟨p, 4, none⟩ (.int .i64 N.sg)).setCell ⟨p, 5, none⟩ (.int .i64 N.sg)).setCell ⟨p, 6, none⟩ (.bool false)) lo K K := by
  have hl : (N.out.take N.so).length = N.so := List.length_take_of_le hF.so1
  have hr : Ro w lo (fun k => K k ∧ k ≠ p) (.slice A N.crash.out.length N.crash.out.length) N.crash.out := z.ro.cut hF.so1
  have hb := blk_set (blk_set (blk_set (blk_set (blk_set (blk_set (blk_set z.blk 0 (.int .i64 N.win)) 1 (.slice A N.so N.so)) 2 (.int .i64 N.so)) 3 (.int .i64 0)) 4 (.int .i64 N.sg)) 5 (.int .i64 N.sg)) 6 (.bool false)
  have hp := z.kb p z.kp
  have hn : ∀ k, k ≠ p → (((((((w.setCell ⟨p, 0, none⟩ (.int .i64 N.win)).setCell ⟨p, 1, none⟩ (.slice A N.so N.so)).setCell ⟨p, 2, none⟩ (.int .i64 N.so)).setCell ⟨p, 3, none⟩ (.int .i64 0)).setCell ⟨p, 4, none⟩ (.int .i64 N.sg)).setCell ⟨p, 5, none⟩ (.int .i64 N.sg)).setCell ⟨p, 6, none⟩ (.bool false)).heap[k]? = w.heap[k]? := fun k hk => by
    repeat rw [Below.heap_setCell _ _ _ _ (by exact hk)]
  have hs : (((((((w.setCell ⟨p, 0, none⟩ (.int .i64 N.win)).setCell ⟨p, 1, none⟩ (.slice A N.so N.so)).setCell ⟨p, 2, none⟩ (.int .i64 N.so)).setCell ⟨p, 3, none⟩ (.int .i64 0)).setCell ⟨p, 4, none⟩ (.int .i64 N.sg)).setCell ⟨p, 5, none⟩ (.int .i64 N.sg)).setCell ⟨p, 6, none⟩ (.bool false)).heap.size = w.heap.size := by
    simp only [set_size]
  refine ⟨⟨A, N.crash.out.length, ⟨?_, hr.step (fun k hk _ => hn k hk.2), z.kp, fun k hk => by rw [hs]; exact z.kb k hk⟩⟩, ⟨?_, ⟨by rw [hs]; exact Nat.le_refl _, fun k _ hk => hn k (fun e => hk (e ▸ z.kp))⟩, fun k hk => .inl hk⟩⟩
  · rw [hb]
    simp [enCells, En.crash, hl]
  · exact (((((((Below.refl _ _).setCell hp.1 _).setCell hp.1 _).setCell hp.1 _).setCell hp.1 _).setCell hp.1 _).setCell hp.1 _).setCell hp.1 _
set_option maxRecDepth 100000 in
set_option maxHeartbeats 8000000 in
theorem linkCrash_calls (w : World) (lo : Nat) (K : Nat → Prop) (N : En) (p : Nat) (hF : EnFine N) (hE : IsEnd w lo K N p) :
    Calls Try.prog 35 #[.pointer (some ⟨p, 0, none⟩)] w fun e w' => e = .returned .nilIface ∧ IsEnd w' lo K N.crash p ∧ Moved w w' lo K K := by
  obtain ⟨A, c, z⟩ := hE
  have HZ := Aside0.mk z
  have HF := Lib.hid hF
  obtain ⟨c0, c1, c2, c3, c4, c5, c6⟩ := z.cells
  have f0 := blk_frozen z.blk 0
  have f1 := blk_frozen z.blk 1
  have f2 := blk_frozen z.blk 2
  have f3 := blk_frozen z.blk 3
  have f4 := blk_frozen z.blk 4
  have f5 := blk_frozen z.blk 5
  have f6 := blk_frozen z.blk 6
  have hsl := L_hm A N.out.length c N.so hF.so1 z.ro.reads'.1
  clear z hF
  go_enter Try.func35, Try.ntmps35
  go_wp2
  go_big_region
  all_goals
    go_wp2
    go_ret
    exact ⟨rfl, (crash_end HZ.out HF.out).1.stay (Below.refl _ _).drew, (crash_end HZ.out HF.out).2.trans (Moved.drew _ _ _)⟩
set_option maxRecDepth 100000 in
theorem linkSent_calls (w : World) (lo : Nat) (K : Nat → Prop) (N : En) (p : Nat) (hE : IsEnd w lo K N p) (hF : EnFine N) :
    Calls Try.prog 37 #[.pointer (some ⟨p, 0, none⟩)] w fun e w' => e = .returned (.int .i64 N.out.length) ∧ Drawn0 w w' := by
  obtain ⟨B, d, z⟩ := hE
  obtain ⟨c0, c1, c2, c3, c4, c5, c6⟩ := z.cells
  have h1 := hF.ol
  have b1 : (N.out.length : Int) ≤ 100000 := by omega
  clear z c0 c2 c3 c4 c5 c6 hF h1
  go_enter Try.func37, Try.ntmps37
  go_wp2
  go_ret
  exact ⟨rfl, ⟨⟨0, rfl⟩⟩⟩
end Go.Proofs.Ytcdhjkkdenhmcaa
