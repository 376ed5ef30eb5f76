/- (*Wave).Begin, Hear, Done. -/
import Derived.Test.YtpnokpoikhpiiaaWvTell
import Derived.Test.YtpnokpoikhpiiaaContains
namespace Go.Proofs.Ytpnokpoikhpiiaa
open Go.RowKit Go.Maps Go.Proofs.YtpnokpoikhpiiaaW.PrintWords Go.Proofs.YtpnokpoikhpiiaaW.PrintLast Go.Proofs.YtpnokpoikhpiiaaW.PrintMore WvSim
set_option linter.unusedVariables false
set_option linter.unusedSimpArgs false

theorem isWave_iff {w : World} {lo hi : Nat} {nd : Nd} {p : Nat} : IsWave w lo hi nd p ↔ ∃ A c bh bt, Tell0 w lo hi p bh bt A c nd :=
  ⟨fun ⟨A, c, bh, bt, h1, h2, h3, h4, h5, h6, h7, h8⟩ => ⟨A, c, bh, bt, h1, h2, h3, h4, h5, h6, h7, h8⟩,
   fun ⟨A, c, bh, bt, z⟩ => ⟨A, c, bh, bt, z.h1, z.h2, z.h3, z.h4, z.h5, z.h6, z.h7, z.h8⟩⟩

/-- What Begin and Hear leave: whom to tell, and the wave behind it. -/
def SaysPost (w : World) (lo hi p : Nat) (nd : Nd) (e : Ending) (w' : World) : Prop :=
  ∃ v, e = .returned (.tuple #[v, .nilIface]) ∧ (Kd.int .i64).R 3 w' w.heap.size (fun _ => True) v (tells nd.near nd.heard nd.told nd.bg) ∧
    IsWave w' lo hi { nd with told := nd.told ++ tells nd.near nd.heard nd.told nd.bg } p ∧ Below lo w w' ∧ Kept w w' (In lo hi)

section
variable {w w2 : World} {lo hi p bh bt : Nat} {A : Option Addr} {c : Nat} {nd : Nd}
theorem Tell0.begun (z : Tell0 w lo hi p bh bt A c nd) : Tell0 (w.setCell ⟨p, 3, none⟩ (.bool true)) lo hi p bh bt A c { nd with bg := true } := by
  have hb : ∀ i, i ≠ p → (w.setCell ⟨p, 3, none⟩ (.bool true)).heap[i]? = w.heap[i]? := fun i hi => Below.heap_setCell w _ _ i hi
  have hne : bh ≠ p := by
    rintro rfl
    obtain ⟨es, clock, ho⟩ := z.h3.obj
    rw [z.h1] at ho
    cases ho
  refine ⟨?_, ?_, z.h3.move (hb _ hne), z.h4.move (hb _ z.ne.symm), z.h5, z.h6, z.h7, z.h8⟩
  · have := blk_set z.h1 3 (.bool true)
    simpa using this
  · refine Kd.R_mono (Kd.R_move (Kd.R_bound z.h2) (fun i hi => ?_)) (fun _ hk => hk.1)
    obtain ⟨_, _, hlt, q, hq, cells, hc⟩ := hi
    refine hb i (fun e => ?_)
    subst e
    rw [z.h1] at hc
    injection hc with hc
    injection hc with _ hc
    have : q = 3 := by simpa [Kd.int, Kd.scalar] using hq
    rw [this] at hc
    exact absurd hc (by decide)
theorem Tell0.below_set (z : Tell0 w lo hi p bh bt A c nd) (u : Value) : Below lo w (w.setCell ⟨p, 3, none⟩ u) := (Below.refl lo w).setCell z.h6.1 u
theorem Tell0.kept_set (z : Tell0 w lo hi p bh bt A c nd) (u : Value) : Kept w (w.setCell ⟨p, 3, none⟩ u) (In lo hi) :=
  ⟨by simp [World.setCell], fun i _ hn => Below.heap_setCell w _ _ i (fun e => hn (e ▸ z.h6))⟩
theorem Tell0.hear {n : Int} (z : Tell0 w lo hi p bh bt A c nd) (hg : w.grownBy w2 (some bh)) (hk : Keys w2 bh (nd.heard ++ [n])) : Tell0 w2 lo hi p bh bt A c { nd with heard := nd.heard ++ [n] } := by
  obtain ⟨es, clock, ho⟩ := z.h3.obj
  have hne : p ≠ bh := by
    rintro rfl
    rw [z.h1] at ho
    cases ho
  have hb : ∀ i, i < w.heap.size → i ≠ bh → w2.heap[i]? = w.heap[i]? := fun i hi hne => hg.block i hi (fun e => by injection e with e; exact hne e)
  refine ⟨(hb p (blk_lt z.h1) hne).trans z.h1, ?_, hk, z.h4.move (hb bt z.h4.lt z.h5.symm), z.h5, z.h6, z.h7, z.h8⟩
  refine Kd.R_mono (Kd.R_move (Kd.R_bound z.h2) (fun i hi => ?_)) (fun _ hk => hk.1)
  obtain ⟨_, _, hlt, q, hq, cells, hc⟩ := hi
  refine hb i hlt (fun e => ?_)
  subst e
  rw [ho] at hc
  cases hc
theorem Fine.begun (h : Fine nd) : Fine { nd with bg := true } := ⟨h.nn, h.nb, h.hn, h.hs, h.tn, h.ts⟩
theorem Fine.hear {n : Int} (h : Fine nd) (hm : n ∈ nd.near) (hn : n ∉ nd.heard) : Fine { nd with heard := nd.heard ++ [n] } := by
  refine ⟨h.nn, h.nb, ?_, ?_, h.tn, h.ts⟩
  · rw [List.nodup_append]
    exact ⟨h.hn, by simp, fun a ha b hb e => by simp at hb; subst hb; exact hn (e ▸ ha)⟩
  · intro x hx
    rcases List.mem_append.1 hx with hx | hx
    · exact h.hs x hx
    · simp at hx; subst hx; exact hm
theorem Fine.tell (h : Fine nd) : Fine { nd with told := nd.told ++ tells nd.near nd.heard nd.told nd.bg } := by
  refine ⟨h.nn, h.nb, h.hn, h.hs, ?_, ?_⟩
  · rw [List.nodup_append]
    exact ⟨h.tn, h.nn.filter _, fun a ha b hb e => by subst e; exact (mem_tells.1 hb).2.2.1 ha⟩
  · intro x hx
    rcases List.mem_append.1 hx with hx | hx
    · exact h.ts x hx
    · exact (mem_tells.1 hx).1
end

set_option maxRecDepth 100000 in
theorem begin_nil (w : World) : Calls Try.prog 8 #[.pointer none] w fun e w' => e = .returned (.tuple #[.slice none 0 0, .iface 28 (.int .i64 19)]) ∧ w = w' := by
  go_enter Try.func8, Try.ntmps8
  go_wp2
  go_ret2
  exact ⟨rfl, rfl⟩
set_option maxRecDepth 100000 in
theorem begin_again (w : World) (lo hi p : Nat) (nd : Nd) (hW : IsWave w lo hi nd p) (hb : nd.bg = true) :
    Calls Try.prog 8 #[.pointer (some ⟨p, 0, none⟩)] w fun e w' => e = .returned (.tuple #[.slice none 0 0, .iface 28 (.int .i64 21)]) ∧ w = w' := by
  obtain ⟨A, c, bh, bt, z⟩ := isWave_iff.1 hW
  have c3 := blk_cell z.h1 3
  simp [hb] at c3
  clear hW z hb
  go_enter Try.func8, Try.ntmps8
  go_wp2
  go_ret2
  exact ⟨rfl, rfl⟩
set_option maxRecDepth 100000 in
theorem begin_calls (w : World) (lo hi p : Nat) (nd : Nd) (hF : Fine nd) (hW : IsWave w lo hi nd p) (hb : nd.bg = false) :
    Calls Try.prog 8 #[.pointer (some ⟨p, 0, none⟩)] w (SaysPost w lo hi p { nd with bg := true }) := by
  obtain ⟨A, c, bh, bt, z⟩ := isWave_iff.1 hW
  have c3 := blk_cell z.h1 3
  have f3 := blk_frozen z.h1 3
  simp [hb] at c3
  have Z := Lib.hid z
  have HF := Lib.hid hF
  clear hW z hb hF
  go_enter Try.func8, Try.ntmps8
  go_wp2_with (go_at_call 20; refine (tell_calls _ lo hi p _ HF.out.begun (isWave_iff.2 ⟨A, c, bh, bt, Z.out.begun⟩)).mono ?_; rintro e w1 ⟨v, rfl, hv, hw, hb1, hk1⟩; have HV := Aside0.mk hv; have HW := Aside0.mk hw; have HB := Aside0.mk hb1; have HK := Aside0.mk hk1; clear hv hw hb1 hk1)
  go_ret2
  refine ⟨_, rfl, ?_, HW.out, (Z.out.below_set _).trans HB.out, (Z.out.kept_set _).then_ HK.out (fun k hk => .inl hk)⟩
  have := HV.out
  simpa [World.setCell] using this

set_option maxRecDepth 100000 in
theorem hear_nil (w : World) (n : Int) : Calls Try.prog 10 #[.pointer none, .int .i64 n] w fun e w' => e = .returned (.tuple #[.slice none 0 0, .iface 28 (.int .i64 19)]) ∧ w = w' := by
  go_enter Try.func10, Try.ntmps10
  go_wp2
  go_ret2
  exact ⟨rfl, rfl⟩
set_option maxRecDepth 100000 in
theorem hear_none (w : World) (lo hi p : Nat) (nd : Nd) (n : Int) (hW : IsWave w lo hi nd p) (hn : n ∉ nd.near) :
    Calls Try.prog 10 #[.pointer (some ⟨p, 0, none⟩), .int .i64 n] w fun e w' => e = .returned (.tuple #[.slice none 0 0, .iface 28 (.int .i64 12)]) ∧ w = w' := by
  obtain ⟨A, c, bh, bt, z⟩ := isWave_iff.1 hW
  have c0 := blk_cell z.h1 0
  simp at c0
  have hC := Aside0.mk (Kd.R_reads' z.h2).2.2
  have hd : decide (n ∈ nd.near) = false := by simpa using hn
  clear hW z hn
  go_enter Try.func10, Try.ntmps10
  go_wp2_with (go_at_call 21; refine (contains_calls _ _ _ nd.near _ hC.out).mono ?_; rintro e w1 ⟨rfl, rfl⟩)
  go_ret2
  exact ⟨rfl, rfl⟩
set_option maxRecDepth 100000 in
theorem hear_again (w : World) (lo hi p : Nat) (nd : Nd) (n : Int) (hF : Fine nd) (hW : IsWave w lo hi nd p) (hn : n ∈ nd.heard) :
    Calls Try.prog 10 #[.pointer (some ⟨p, 0, none⟩), .int .i64 n] w fun e w' => e = .returned (.tuple #[.slice none 0 0, .iface 28 (.int .i64 9)]) ∧ w = w' := by
  obtain ⟨A, c, bh, bt, z⟩ := isWave_iff.1 hW
  have c0 := blk_cell z.h1 0
  have c1 := blk_cell z.h1 1
  simp at c0 c1
  have hC := Aside0.mk (Kd.R_reads' z.h2).2.2
  have hm := hF.hs n hn
  have hd : decide (n ∈ nd.near) = true := by simpa using hm
  have hb := hF.nb n hm
  have hl := z.h3.look (WalkArith.wf_i64 (n := n) (by omega))
  rw [if_pos hn] at hl
  clear hW z hn hF hm
  go_enter Try.func10, Try.ntmps10
  go_wp2_with (go_at_call 21; refine (contains_calls _ _ _ nd.near _ hC.out).mono ?_; rintro e w1 ⟨rfl, rfl⟩)
  go_ret2
  exact ⟨rfl, rfl⟩
set_option maxRecDepth 100000 in
theorem hear_calls (w : World) (lo hi p : Nat) (nd : Nd) (n : Int) (hF : Fine nd) (hW : IsWave w lo hi nd p) (hm : n ∈ nd.near) (hn : n ∉ nd.heard) :
    Calls Try.prog 10 #[.pointer (some ⟨p, 0, none⟩), .int .i64 n] w (SaysPost w lo hi p { nd with heard := nd.heard ++ [n] }) := by
  obtain ⟨A, c, bh, bt, z⟩ := isWave_iff.1 hW
  have c0 := blk_cell z.h1 0
  have c1 := blk_cell z.h1 1
  simp at c0 c1
  have hC := Aside0.mk (Kd.R_reads' z.h2).2.2
  have hd : decide (n ∈ nd.near) = true := by simpa using hm
  have hb := hF.nb n hm
  have HWF := Lib.hid (WalkArith.wf_i64 (n := n) (by omega))
  have hl := z.h3.look HWF.out
  rw [if_neg hn] at hl
  have Z := Lib.hid z
  have HF := Lib.hid hF
  have HM := Lib.hid hm
  have HN := Lib.hid hn
  clear hW z hn hF hm
  go_enter Try.func10, Try.ntmps10
  go_wp2_with (first
    | (go_at_call 21; refine (contains_calls _ _ _ nd.near _ hC.out).mono ?_; rintro e w1 ⟨rfl, rfl⟩)
    | (at_mapUpdate; refine wpList_putKey _ rfl _ _ _ rfl bh nd.heard n rfl rfl rfl Z.out.h3 HWF.out HN.out (by have := HF.out.heard8; unfold maxLen; omega) ?_; intro w2 hk2 hg2; have Z2 := Aside0.mk (Z.out.hear hg2 hk2); have HG2 := Aside0.mk hg2; clear hk2 hg2 hl c0 c1)
    | (go_at_call 20; refine (tell_calls _ lo hi p _ (HF.out.hear HM.out HN.out) (isWave_iff.2 ⟨A, c, bh, bt, Z2.out⟩)).mono ?_; rintro e w3 ⟨v, rfl, hv, hw, hb1, hk1⟩; have HV := Aside0.mk hv; have HW := Aside0.mk hw; have HB := Aside0.mk hb1; have HK := Aside0.mk hk1; clear hv hw hb1 hk1))
  go_ret2
  have hlo := Z.out.h7.1
  have hlt := Z.out.h3.lt
  refine ⟨_, rfl, ?_, HW.out, ((Below.refl lo w).grown HG2.out (by omega) (fun k e => by injection e with e; omega)).trans HB.out,
    Kept.then_ ⟨HG2.out.size, fun i hi hn => HG2.out.block i hi (fun e => by injection e with e; subst e; exact hn Z.out.h7)⟩ HK.out (fun k hk => .inl hk)⟩
  exact Kd.R_lower HV.out HG2.out.size
set_option maxRecDepth 100000 in
theorem done_nil (w : World) : Calls Try.prog 11 #[.pointer none] w fun e w' => e = .returned (.bool false) ∧ Drawn0 w w' := by
  go_enter Try.func11, Try.ntmps11
  go_wp2
  go_quiet (fail)
  go_wp2
  go_ret
  exact ⟨rfl, ⟨⟨_, rfl⟩⟩⟩
set_option maxRecDepth 100000 in
theorem done_calls (w : World) (lo hi p : Nat) (nd : Nd) (hF : Fine nd) (hW : IsWave w lo hi nd p) :
    Calls Try.prog 11 #[.pointer (some ⟨p, 0, none⟩)] w fun e w' => e = .returned (.bool (nd.bg && nd.heard.length == nd.near.length)) ∧ Drawn0 w w' := by
  obtain ⟨A, c, bh, bt, z⟩ := isWave_iff.1 hW
  have c0 := blk_cell z.h1 0
  have c1 := blk_cell z.h1 1
  have c3 := blk_cell z.h1 3
  simp at c0 c1 c3
  have l2 := fun m ty => (z.h3.drewN m).len ty
  by_cases hb : nd.bg = true
  · rw [hb] at c3 ⊢
    clear hW z hF
    go_enter Try.func11, Try.ntmps11
    go_wp2
    go_quiet (fail)
    go_wp2
    go_ret
    refine ⟨?_, ⟨⟨_, rfl⟩⟩⟩
    have e : (((nd.heard.length : Int) == (nd.near.length : Int)) : Bool) = (true && nd.heard.length == nd.near.length) := by
      rw [Bool.eq_iff_iff]
      simp
      omega
    rw [← e]
    first
      | rfl
      | (simp; done)
  · replace hb := Bool.eq_false_iff.mpr hb
    rw [hb] at c3 ⊢
    clear hW z hF
    go_enter Try.func11, Try.ntmps11
    go_wp2
    go_quiet (fail)
    go_wp2
    go_ret
    exact ⟨rfl, ⟨⟨_, rfl⟩⟩⟩
end Go.Proofs.Ytpnokpoikhpiiaa
