/- WaveRuns: what the loop over the calls keeps. -/
import Derived.Test.YtpnokpoikhpiiaaDoorW19H
namespace Go.Proofs.YtpnokpoikhpiiaaDoor
open Go.RowKit Go.Maps Go.Proofs.YtpnokpoikhpiiaaDoorW.PrintWords Go.Proofs.YtpnokpoikhpiiaaDoorW.PrintLast Go.Proofs.YtpnokpoikhpiiaaDoorW.PrintMore WvSim
set_option linter.unusedVariables false
set_option linter.unusedSimpArgs false
def Er.code : Er → Int
  | .ok => 0
  | .num c => c
  | .at_ _ _ c => c
/-- The wave (nd1) and the document's (nd2, in the cell gm), the document's error (in the cell gm + 1). -/
structure RunW (w : World) (lo hi p gm : Nat) (A0 : Option Addr) (c0 : Nat) (xs : List Int) (nd1 nd2 : Nd) (B C : Option Addr) (b c : Nat) (er : Er) (wx : World) : Prop where
  wave : IsWave wx lo hi nd1 p
  m : wx.heap[gm]? = some (.cells #[.slice A0 xs.length c0, .slice B nd2.heard.length b, .slice C nd2.told.length c, .bool nd2.bg] 31)
  rb : (Kd.int .i64).R 3 wx (gm + 2) (fun _ => True) (.slice B nd2.heard.length b) nd2.heard
  rc : (Kd.int .i64).R 3 wx (gm + 2) (fun _ => True) (.slice C nd2.told.length c) nd2.told
  e : wx.heap[gm + 1]? = some (.cells #[.bool er.bad, .slice none 0 0, .int .i64 er.code] 35)
  below : Below w.heap.size w wx
  h1 : hi ≤ gm
  h2 : gm + 2 ≤ wx.heap.size
  h3 : w.heap.size ≤ lo
  h4 : lo ≤ gm
section
variable {w wx w1 : World} {lo hi p gm : Nat} {A0 : Option Addr} {c0 : Nat} {xs : List Int} {nd1 nd1' nd2 nd2' : Nd} {B C B' C' : Option Addr} {b c b' c' : Nat} {er er' : Er}
theorem RunW.kept (h : RunW w lo hi p gm A0 c0 xs nd1 nd2 B C b c er wx) (hW : IsWave w1 lo hi nd1' p) (hB : Below lo wx w1) (hK : Kept wx w1 (In lo hi)) : RunW w lo hi p gm A0 c0 xs nd1' nd2 B C b c er w1 :=
  ⟨hW, (hK.2 _ (blk_lt h.m) (fun hin => by have := hin.2; have := h.h1; omega)).trans h.m, R_kept h.rb hK (by have := h.h1; omega), R_kept h.rc hK (by have := h.h1; omega),
    (hK.2 _ (blk_lt h.e) (fun hin => by have := hin.2; have := h.h1; omega)).trans h.e, h.below.trans (hB.mono h.h3), h.h1, Nat.le_trans h.h2 hB.size, h.h3, h.h4⟩
theorem RunW.step (h : RunW w lo hi p gm A0 c0 xs nd1 nd2 B C b c er wx) (hb : Below wx.heap.size wx w1) : RunW w lo hi p gm A0 c0 xs nd1 nd2 B C b c er w1 :=
  ⟨h.wave.below hb, (hb.block _ (blk_lt h.m)).trans h.m, Kd.R_below h.rb hb, Kd.R_below h.rc hb, (hb.block _ (blk_lt h.e)).trans h.e, below_step h.below hb, h.h1, Nat.le_trans h.h2 hb.size, h.h3, h.h4⟩
theorem RunW.put (h : RunW w lo hi p gm A0 c0 xs nd1 nd2 B C b c er wx) (r1 : (Kd.int .i64).R 3 wx (gm + 2) (fun _ => True) (.slice B' nd2'.heard.length b') nd2'.heard) (r2 : (Kd.int .i64).R 3 wx (gm + 2) (fun _ => True) (.slice C' nd2'.told.length c') nd2'.told) :
    RunW w lo hi p gm A0 c0 xs nd1 nd2' B' C' b' c' er' (((((((wx.setCell ⟨gm, 0, none⟩ (.slice A0 xs.length c0)).setCell ⟨gm, 1, none⟩ (.slice B' nd2'.heard.length b')).setCell ⟨gm, 2, none⟩ (.slice C' nd2'.told.length c')).setCell ⟨gm, 3, none⟩ (.bool nd2'.bg)).setCell ⟨gm + 1, 0, none⟩ (.bool er'.bad)).setCell ⟨gm + 1, 1, none⟩ (.slice none 0 0)).setCell ⟨gm + 1, 2, none⟩ (.int .i64 er'.code)) := by
  have f : ∀ (V : World) (q : Addr) (v : Value), (V.setCell q v).heap.size = V.heap.size := fun V q v => by simp [World.setCell]
  have hm := M_put h.m (.slice A0 xs.length c0) (.slice B' nd2'.heard.length b') (.slice C' nd2'.told.length c') (.bool nd2'.bg)
  have he := put_both h.m h.e (by omega) (.slice A0 xs.length c0) (.slice B' nd2'.heard.length b') (.slice C' nd2'.told.length c') (.bool nd2'.bg)
  have h1 := h.h1
  have h2 := h.h2
  have h3 := h.h3
  have h4 := h.h4
  refine ⟨h.wave.move fun k hk => ?_, put_back hm (by omega) _ _ _, R_put7 r1 (by omega) (by omega) _ _ _ _ _ _ _, R_put7 r2 (by omega) (by omega) _ _ _ _ _ _ _, E_put he _ _ _, below_put (below_put4 h.below (by omega) _ _ _ _) (by omega) _ _ _, h1, by simp only [f]; exact h2, h3, h4⟩
  have hk2 := hk.2
  have n1 : k ≠ gm := by omega
  have n2 : k ≠ gm + 1 := by omega
  exact (Below.heap_setCell _ _ _ _ n2).trans ((Below.heap_setCell _ _ _ _ n2).trans ((Below.heap_setCell _ _ _ _ n2).trans ((Below.heap_setCell _ _ _ _ n1).trans ((Below.heap_setCell _ _ _ _ n1).trans ((Below.heap_setCell _ _ _ _ n1).trans (Below.heap_setCell _ _ _ _ n1))))))
end
/-- An error without a place, as it stands in a slot. -/
def ErV : Er → Value → Prop
  | .ok, v => v = .nilIface
  | .num c, v => v = .iface 33 (.int .i64 c)
  | .at_ _ _ _, _ => False
theorem ErV.isEr {er : Er} {v : Value} (h : ErV er v) (w : World) (b : Nat) : IsEr w b er v := by
  cases er with
  | ok => exact h
  | num c => exact h
  | at_ _ _ _ => exact h.elim
theorem ErV.isE {er : Er} {v : Value} (h : ErV er v) (w : World) : IsE w er (.agg #[.bool er.bad, .slice none 0 0, .int .i64 er.code]) := by
  cases er with
  | ok => exact rfl
  | num c => exact rfl
  | at_ _ _ _ => exact h.elim
/-- What stands between the switch and the test. -/
def RunQ (w : World) (lo hi p gm : Nat) (A0 : Option Addr) (c0 : Nat) (xs : List Int) (s6 s11 s12 : Value) (wx : World) : Prop :=
  ∃ (nd : Nd) (B C : Option Addr) (b c : Nat) (er : Er) (T : List Int) (Aa Ab : Option Addr) (ca cb : Nat), nd.near = xs ∧ Fine nd ∧ RunW w lo hi p gm A0 c0 xs nd nd B C b c er wx ∧ ErV er s6 ∧
    s11 = .slice Aa T.length ca ∧ s12 = .slice Ab T.length cb ∧ (Kd.int .i64).C wx Aa T.length T ∧ (Kd.int .i64).C wx Ab T.length T
end Go.Proofs.YtpnokpoikhpiiaaDoor
