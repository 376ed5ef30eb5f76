/- link: Bytes, Twin, Lists; two ends in memory. -/
import Derived.Test.YtcdhjkkdenhmcaaLkV
namespace Go.Proofs.Ytcdhjkkdenhmcaa
open Go.RowKit Go.Proofs.YtcdhjkkdenhmcaaW.PrintWords Go.Proofs.YtcdhjkkdenhmcaaW.PrintLast Go.Proofs.YtcdhjkkdenhmcaaW.PrintMore
set_option linter.unusedVariables false
set_option linter.unusedSimpArgs false
def strB (xs : List UInt8) : ByteArray := strOfNums (xs.map fun b => (b.toNat : Int))
theorem conv_str {w : World} {A : Option Addr} {n c : Nat} {xs : List UInt8} (h : kB.C w A n xs) : (convert 29 9 (.slice A n c)).run Try.prog w = .ok (.string (strB xs)) w := by
  refine string_of_reads Try.underlying29 Try.underlying5 Try.underlying9 ?_
  have h1 := Kd.reads_of_C (enc := encB) (d := 0) h
  refine ⟨by rw [List.length_map]; exact h1.1, h1.2.1, fun hn => ?_⟩
  obtain ⟨ad, e, hc⟩ := h1.2.2 hn
  refine ⟨ad, e, fun j hj => ?_⟩
  rw [hc j hj]
  have hl : j < xs.length := by rw [h1.1]; exact hj
  simp [encB, List.getD_eq_getElem?_getD, List.getElem?_eq_getElem hl]
set_option maxRecDepth 100000 in
theorem bytes_same (w : World) (A : Option Addr) (c : Nat) (B : Option Addr) (d : Nat) (xs : List UInt8) (hx : kB.C w A xs.length xs) (hy : kB.C w B xs.length xs) :
    Calls Try.prog 17 #[.slice A xs.length c, .slice B xs.length d] w fun e w' => e = .returned (.bool true) ∧ w = w' := by
  have e1 := conv_str (c := c) hx
  have e2 := conv_str (c := d) hy
  clear hx hy
  go_enter Try.func17, Try.ntmps17
  go_wp2
  go_ret
  exact ⟨rfl, rfl⟩
set_option maxRecDepth 100000 in
theorem twin_calls (w : World) (A : Option Addr) (c : Nat) (xs : List UInt8) (hr : kB.C w A xs.length xs) (hl : xs.length ≤ 1099511627776) :
    Calls Try.prog 33 #[.slice A xs.length c] w (NewBytes w xs) := by
  have HR := Lib.hid hr
  have HL := Lib.hid hl
  clear hl hr
  go_enter Try.func33, Try.ntmps33
  go_wp2_with (at_builtin; refine app_bytes w.heap.size rfl _ _ rfl (.slice (some ⟨w.heap.size, 0, none⟩) 0 0) [] xs A xs.length c rfl rfl (B_empty w _ (Nat.le_refl _)) (Kd.C_alloc HR.out _) (by simp) (by have := HL.out; simp; omega) ?_; intro v1 w1 ho hb; have HO := Aside0.mk ho; have HB := Aside0.mk hb; clear ho hb)
  go_ret
  exact ⟨_, rfl, by simpa using HO.out, (below_alloc (Below.refl _ _) _).trans HB.out⟩
set_option maxRecDepth 100000 in
set_option maxHeartbeats 1000000 in
theorem lists_same (w : World) (A : Option Addr) (c : Nat) (B : Option Addr) (d : Nat) (l : List (List UInt8)) (hx : kBs.C w A l.length l) (hy : kBs.C w B l.length l) :
    Calls Try.prog 13 #[.slice A l.length c, .slice B l.length d] w fun e w' => e = .returned (.bool true) ∧ ∃ m, w' = w.drewN m := by
  have HX := Lib.hid hx
  have HY := Lib.hid hy
  have hm : (l.length : Int) ≤ 9223372036854775807 := by have := hx.2.1; omega
  clear hx hy
  go_enter Try.func13, Try.ntmps13
  go_wp2
  go_loopw [13] (fun v wr => ∃ k : Nat, v = .int .i64 k ∧ k ≤ l.length ∧ Aside0 (∃ m, wr = w.drewN m)) (fun v _ => l.length - (intOf v).toNat)
  case atStart => exact ⟨0, rfl, Nat.zero_le _, ⟨0, rfl⟩⟩
  case round =>
    obtain ⟨k, rfl, hk, HW⟩ := hrel
    by_cases hlt : k < l.length
    · obtain ⟨ad, A0, c0, rfl, h1, _, h2⟩ := L_cell (show kBs.C wr A l.length l by obtain ⟨m, e⟩ := HW.out; rw [e]; exact Kd.C_drewN HX.out _) hlt
      obtain ⟨bd, B0, d0, rfl, h3, _, h4⟩ := L_cell (show kBs.C wr B l.length l by obtain ⟨m, e⟩ := HW.out; rw [e]; exact Kd.C_drewN HY.out _) hlt
      have k0 : (0 : Int) ≤ k := by omega
      have k1 : (k : Int) < l.length := by omega
      obtain ⟨q, hq⟩ : ∃ q, q = gl l k := ⟨_, rfl⟩
      rw [← hq] at h1 h2 h3 h4
      have H2 := Aside0.mk h2
      have H4 := Aside0.mk h4
      clear hlt h2 h4 hq
      go_wp2
      go_quiet ((go_at_call 17; exact Calls.quiet_of_same ((bytes_same _ _ _ _ _ q (Kd.C_drewN H2.out _) (Kd.C_drewN H4.out _)).mono fun _ _ ⟨h, k⟩ => ⟨h, k.symm⟩)))
      go_wp2
      go_roundw
      case rel => exact ⟨k + 1, by go_num, by omega, ⟨by obtain ⟨m, e⟩ := HW.out; rw [e]; exact ⟨_, World.drewN_drewN _ _ _⟩⟩⟩
      case measure => simp [intOf]; omega
    · have k1 : ¬ (k : Int) < l.length := by omega
      clear hlt
      go_wp2
      go_ret
      exact ⟨rfl, HW.out⟩
section
variable {w w' w1 : World} {lo lo' pa pb p : Nat} {K K' Ka Kb Kc : Nat → Prop} {N Na Nb Nc : En}
theorem IsEnd.lower (z : IsEnd w lo K N p) (h : lo' ≤ lo) : IsEnd w lo' K N p := by
  obtain ⟨A, c, z⟩ := z
  exact ⟨A, c, z.blk, z.ro.lower h, z.kp, fun k hk => ⟨Nat.le_trans h (z.kb k hk).1, (z.kb k hk).2⟩⟩
/-- Two ends, in blocks apart. -/
structure Two (w : World) (lo : Nat) (Ka Kb : Nat → Prop) (Na Nb : En) (pa pb : Nat) : Prop where
  a : IsEnd w lo Ka Na pa
  b : IsEnd w lo Kb Nb pb
  ap : ∀ k, Ka k → ¬ Kb k
theorem Two.flip (t : Two w lo Ka Kb Na Nb pa pb) : Two w lo Kb Ka Nb Na pb pa := ⟨t.b, t.a, fun k h1 h2 => t.ap k h2 h1⟩
theorem Two.left (t : Two w lo Ka Kb Na Nb pa pb) (h : IsEnd w' lo Kc Nc pa) (m : Moved w w' lo Ka Kc) : Two w' lo Kc Kb Nc Nb pa pb :=
  ⟨h, t.b.move (fun k hk => m.kept.2 k (t.b.kb k hk).2 (fun h => t.ap k h hk)) m.below.size, fun k h1 h2 => (m.new k h1).elim (fun h => t.ap k h h2) (fun h => by have := (t.b.kb k h2).2; omega)⟩
theorem Two.right (t : Two w lo Ka Kb Na Nb pa pb) (h : IsEnd w' lo Kc Nc pb) (m : Moved w w' lo Kb Kc) : Two w' lo Ka Kc Na Nc pa pb := (t.flip.left h m).flip
theorem Two.stay (t : Two w lo Ka Kb Na Nb pa pb) (h : Below w.heap.size w w') : Two w' lo Ka Kb Na Nb pa pb := ⟨t.a.stay h, t.b.stay h, t.ap⟩
theorem Two.drawn (t : Two w lo Ka Kb Na Nb pa pb) (h : Drawn0 w w') : Two w' lo Ka Kb Na Nb pa pb := by
  obtain ⟨⟨n, rfl⟩⟩ := h
  exact t.stay (pw_below_drewN (Below.refl _ _) _)
theorem Two.start {wa wb : World} (ha : IsEnd wa w.heap.size (fun k => k = w.heap.size) Na w.heap.size) (hs : wa.heap.size = w.heap.size + 1) (hb : IsEnd wb wa.heap.size (fun k => k = wa.heap.size) Nb wa.heap.size) (hab : Below wa.heap.size wa wb) : Two wb w.heap.size (fun k => k = w.heap.size) (fun k => k = wa.heap.size) Na Nb w.heap.size wa.heap.size :=
  ⟨ha.stay hab, hb.lower (by omega), fun k h1 h2 => by omega⟩
/-- A row above what an end holds stays when the end moves. -/
theorem Q_kept {α : Type} {d : Kd α} {e base : Nat} {v : Value} {xs : List α} (h : d.Q e w base (fun _ => True) v xs) (hK : ∀ k, K k → k < base) (m : Moved w w' lo K K') : d.Q e w' base (fun _ => True) v xs :=
  Kd.Q_mono (Kd.Q_step (Kd.Q_bound h) (fun k hk hl => m.kept.2 k hl (fun hK2 => by have := hK k hK2; have := hk.2.1; omega))) (fun _ _ => trivial)
theorem R_kept {α : Type} {d : Kd α} {e base : Nat} {v : Value} {xs : List α} (h : d.R e w base (fun _ => True) v xs) (hK : ∀ k, K k → k < base) (m : Moved w w' lo K K') : d.R e w' base (fun _ => True) v xs :=
  Kd.R_mono (Kd.R_step (Kd.R_bound h) (fun k hk hl => m.kept.2 k hl (fun hK2 => by have := hK k hK2; have := hk.2.1; omega))) (fun _ _ => trivial)
end
end Go.Proofs.Ytcdhjkkdenhmcaa
