/- link: awake. -/
import Derived.Test.YtcdhjkkdenhmcaaLkX
namespace Go.Proofs.Ytcdhjkkdenhmcaa
open Go.RowKit Go.Proofs.YtcdhjkkdenhmcaaW.PrintWords Go.Proofs.YtcdhjkkdenhmcaaW.PrintLast Go.Proofs.YtcdhjkkdenhmcaaW.PrintMore
set_option linter.unusedVariables false
set_option linter.unusedSimpArgs false
theorem enFine_new (n : Nat) (h1 : 1 ≤ n) (h2 : n ≤ 64) : EnFine (En.new n) := ⟨h1, h2, by simp [En.new], by simp [En.new], by simp [En.new], by simp [En.new], by simp [En.new]⟩
def aw2 : En := ((En.new 8).push [1]).push [2]
theorem aw2_fine : EnFine aw2 := ((enFine_new 8 (by decide) (by decide)).push _ (by decide)).push _ (by decide)
theorem aw_pkt : pkt aw2.commit = putAll (uintsF 0 ++ uintsF 0) [[1], [2]] := by rfl
set_option maxRecDepth 100000 in
set_option maxHeartbeats 2000000 in
theorem awake_calls (w : World) : Calls Try.prog 6 #[] w fun e w' => e = .returned (.bool true) ∧ Below w.heap.size w w' := by
  go_enter Try.func6, Try.ntmps6
  go_upto_region 3 with (first
    | (go_at_call 7; refine (linkNew_calls w1 8 (by decide) (by decide)).mono ?_; rintro e w2 ⟨rfl, hE, hs, hb⟩; have HT2 := Aside0.mk (Two.start HE1.out HS1.out hE hb); have HB2 := Aside0.mk (HB1.out.trans (hb.mono (by have := HS1.out; omega))); clear hE hs hb)
    | (go_at_call 7; refine (linkNew_calls w 8 (by decide) (by decide)).mono ?_; rintro e w1 ⟨rfl, hE, hs, hb⟩; have HE1 := Aside0.mk hE; have HS1 := Lib.hid hs; have HB1 := Aside0.mk hb; clear hE hs hb))
  go_upto_region 5 with (first
    | (go_at_call 9; refine (linkPush_calls _ w.heap.size K3 _ _ _ _ [2] ((enFine_new 8 (by decide) (by decide)).push _ (by decide)) (HT3.out.stay (below_alloc (Below.refl _ _) _)).a (B_litC _ [2] (by decide) rfl rfl rfl) (by decide) (by decide)).mono ?_; rintro e w4 ⟨rfl, K4, hz, hm⟩; have HT4 := Aside0.mk ((HT3.out.stay (below_alloc (Below.refl _ _) _)).left hz hm); have HB4 := Aside0.mk ((below_alloc HB3.out _).trans hm.below); clear hz hm)
    | (go_at_call 9; refine (linkPush_calls _ w.heap.size _ _ _ _ _ [1] (enFine_new 8 (by decide) (by decide)) (HT2.out.stay (below_alloc (Below.refl _ _) _)).a (B_litC _ [1] (by decide) rfl rfl rfl) (by decide) (by decide)).mono ?_; rintro e w3 ⟨rfl, K3, hz, hm⟩; have HT3 := Aside0.mk ((HT2.out.stay (below_alloc (Below.refl _ _) _)).left hz hm); have HB3 := Aside0.mk ((below_alloc HB2.out _).trans hm.below); clear hz hm))
  go_upto_region 8 with (first
    | (go_at_call 8; refine (linkCommit_calls _ w.heap.size K4 aw2 _ aw2_fine HT5.out.a).mono ?_; rintro e w6 ⟨rfl, hz, hm⟩; have HT6 := Aside0.mk (HT5.out.left hz hm); have HB6 := Aside0.mk (HB5.out.trans hm.below); clear hz hm)
    | (go_at_call 10; refine (linkPacketNone_calls _ w.heap.size K4 aw2 _ aw2_fine HT4.out.a (by decide) (by decide)).mono ?_; rintro e w5 ⟨rfl, hd⟩; have HT5 := Aside0.mk (Two.drawn (show Two w4 w.heap.size K4 (fun k => k = w1.heap.size) aw2 (En.new 8) w.heap.size w1.heap.size from HT4.out) hd); have HB5 := Aside0.mk (show Below w.heap.size w w5 from by obtain ⟨⟨n, rfl⟩⟩ := hd; exact pw_below_drewN HB4.out _); clear hd))
  go_upto_region 10 with (first
    | (go_at_call 12; refine (linkReceive_calls _ w.heap.size _ (En.new 8) _ 0 0 _ _ [[1], [2]] (pkt aw2.commit) 1 (enFine_new 8 (by decide) (by decide)) HT7.out.b aw_pkt (Kd.R_reads' HP7.out).2.2 (Kd.R_reads' HP7.out).2.1 (by decide) (by decide) (by decide) (by decide)).mono ?_; rintro e w8 ⟨A8, c8, rfl, hq, hz, hm⟩; have HT8 := Aside0.mk (HT7.out.right hz hm); have HQ8 := Aside0.mk hq; have HB8 := Aside0.mk (HB7.out.trans hm.below); clear hz hm hq)
    | (go_at_call 10; refine (linkPacket_calls _ w.heap.size K4 aw2.commit _ aw2_fine.commit HT6.out.a (by decide) (.inl (by decide))).mono ?_; rintro e w7 ⟨A7, c7, rfl, hp, hz, hm⟩; have HP7 := Aside0.mk hp; have HT7 := Aside0.mk (HT6.out.left hz hm); have HB7 := Aside0.mk (HB6.out.trans hm.below); clear hp hz hm))
  have hr : rcvd (En.new 8).got 0 1 [[1], [2]] = [[1]] := rfl
  rw [hr] at HQ8 ⊢
  obtain ⟨ad, A0, c0, rfl, h1, _, h2⟩ := L_cell (Kd.Q_reads' HQ8.out).2.2 (k := 0) (by decide)
  have hg : gl [[1]] 0 = [1] := rfl
  rw [hg] at h1 h2
  have H2 := Aside0.mk h2
  have ha0 : ad.add 0 = ad := by unfold Addr.add; split <;> simp_all
  rw [ha0] at h1
  have h1 : w8.cell? ad = some (.slice A0 1 c0) := h1
  have al : ∀ o : Obj, (w8.alloc o).cell? ad = some (.slice A0 1 c0) := fun o => Below.keeps (below_alloc (Below.refl w8.heap.size w8) o) h1 (by
    unfold World.cell? at h1
    rcases Nat.lt_or_ge ad.block w8.heap.size with h | h
    · exact h
    · rw [Array.getElem?_eq_none h] at h1; cases h1)
  have hl1 : ([[1]] : List (List UInt8)).length = 1 := rfl
  rw [hl1]
  clear hl1 ha0
  clear h2 hr hg
  go_wp2_with (first
    | (go_at_call 11; refine (linkOpen_calls _ w.heap.size _ aw2.commit.sent _ aw2_fine.commit.sent HT10.out.a).mono ?_; rintro e w11 ⟨rfl, hd⟩; have HB11 := Aside0.mk (show Below w.heap.size w w11 from by obtain ⟨⟨n, rfl⟩⟩ := hd; exact pw_below_drewN HB10.out _); clear hd)
    | (go_at_call 18; refine (linkGot_calls _ w.heap.size _ ((En.new 8).recv 0 0 1 [[1], [2]]) _ (HT8.out.stay (below_alloc (Below.refl _ _) _)).b).mono ?_; rintro e w10 ⟨rfl, hd⟩; have HT10 := Aside0.mk (Two.drawn (HT8.out.stay (below_alloc (Below.refl _ _) _)) hd); have HB10 := Aside0.mk (show Below w.heap.size w w10 from by obtain ⟨⟨n, rfl⟩⟩ := hd; exact pw_below_drewN (below_alloc HB8.out _) _); clear hd)
    | (go_at_call 17; refine (bytes_same _ _ _ _ _ [1] (Kd.C_alloc H2.out _) (B_litC _ [1] (by decide) rfl rfl rfl)).mono ?_; rintro e w9 ⟨rfl, rfl⟩))
  go_ret
  exact ⟨rfl, HB11.out⟩
end Go.Proofs.Ytcdhjkkdenhmcaa
