/- link: LinkFull. -/
import Derived.Test.YtcdhjkkdenhmcaaDoorLkErr
import Derived.Test.YtcdhjkkdenhmcaaDoorErP
namespace Go.Proofs.YtcdhjkkdenhmcaaDoor
open Go.RowKit Go.Proofs.YtcdhjkkdenhmcaaDoorW.PrintWords Go.Proofs.YtcdhjkkdenhmcaaDoorW.PrintLast Go.Proofs.YtcdhjkkdenhmcaaDoorW.PrintMore
set_option linter.unusedVariables false
set_option linter.unusedSimpArgs false
def fullN (n : Nat) (p : List UInt8) : En := ⟨64, List.replicate n p, 0, 0, 0, 0, false⟩
theorem fullN_fine {n : Nat} (p : List UInt8) (h : n ≤ 4096) : EnFine (fullN n p) := ⟨show 1 ≤ 64 by decide, show 64 ≤ 64 by decide, by simp only [fullN, List.length_replicate]; omega, Nat.zero_le _, Nat.le_refl _, show 0 ≤ 100000 by decide, Nat.le_refl _⟩
theorem fullN_push (n : Nat) (p : List UInt8) : (fullN n p).push p = fullN (n + 1) p := by
  unfold fullN En.push
  simp only [List.replicate_succ']
theorem fullN_out (n : Nat) (p : List UInt8) : (fullN n p).out.length = n := List.length_replicate
theorem full_wl {n : Nat} (p : List UInt8) (h : 64 ≤ n) : wl (fullN n p).commit = List.replicate 64 p := by
  simp only [wl, En.commit, fullN, List.length_replicate, List.drop_zero, Nat.zero_add, List.take_replicate]
  rw [show min n 64 = 64 by omega, show min 64 n = 64 by omega]
theorem full_rcvd {n : Nat} (p : List UInt8) (h : 64 ≤ n) : (rcvd (En.new 64).got 0 9 (wl (fullN n p).commit)).length = 9 := by
  rw [full_wl p h]
  have hg : (En.new 64).got = 0 := rfl
  have hl : (List.replicate 64 p).length = 64 := List.length_replicate
  have e2 : (9 : Int).toNat = 9 := rfl
  unfold rcvd frs
  rw [hg, if_pos (by rw [hl]; omega), Nat.sub_zero, List.drop_zero, e2, List.length_take, hl]
  rfl
set_option maxRecDepth 100000 in
set_option maxHeartbeats 2000000 in
theorem linkFull_calls (w : World) (hg : Laid w) (A0 : Option Addr) (c0 : Nat) (p : List UInt8) (hx : kB.C w A0 p.length p) (hc : p.length ≤ c0) (hm : p.length ≤ maxLen) :
    Calls Tryd.prog 3 #[.slice A0 p.length c0] w fun e w' => e = .returned (.bool true) ∧ Below w.heap.size w w' := by
  have HX := Aside0.mk hx
  have HG := Lib.hid hg
  have pl : (p.length : Int) ≤ 9223372036854775807 := by have h : maxLen = 9223372036854775807 := rfl; omega
  clear hx hc hg hm
  go_enter Tryd.func3, Tryd.ntmps3
  go_upto_region 3 with (go_at_call 5; refine (awake_calls w).mono ?_; rintro e wa ⟨rfl, hb⟩; have HBA := Aside0.mk hb; clear hb)
  by_cases g1 : (p.length : Int) > 20
  · have g1c : decide ((p.length : Int) > 20) = true := decide_eq_true g1
    go_wp2
    go_ret
    exact ⟨rfl, HBA.out⟩
  have g1c : decide ((p.length : Int) > 20) = false := decide_eq_false g1
  have HL := Lib.hid (show p.length ≤ 20 by omega)
  go_upto_region 7 with (first
    | (go_at_call 6; refine (linkNew_calls w1 64 (by decide) (by decide)).mono ?_; rintro e w2 ⟨rfl, hE, hs, hb⟩; have HT2 := Aside0.mk (Two.start HE1.out HS1.out hE hb); have HB2 := Aside0.mk (HB1.out.trans (hb.mono (by have := HS1.out; have := HBA.out.size; omega))); clear hE hs hb)
    | (go_at_call 6; refine (linkNew_calls wa 64 (by decide) (by decide)).mono ?_; rintro e w1 ⟨rfl, hE, hs, hb⟩; have HE1 := Aside0.mk hE; have HS1 := Lib.hid hs; have HB1 := Aside0.mk (HBA.out.trans (hb.mono HBA.out.size)); clear hE hs hb))
  clear g1c g1
  obtain ⟨pa, hpa⟩ : ∃ pa, pa = wa.heap.size := ⟨_, rfl⟩
  obtain ⟨pb, hpb⟩ : ∃ pb, pb = w1.heap.size := ⟨_, rfl⟩
  have HT0 := Aside0.mk (show ∃ K, Two w2 wa.heap.size K (fun k => k = pb) (fullN 0 p) (En.new 64) pa pb from ⟨_, by have h := HT2.out; rw [← hpa, ← hpb] at h; rw [← hpa]; exact h⟩)
  rw [← hpa, ← hpb]
  have HPA := Lib.hid (show w.heap.size ≤ pa by rw [hpa]; exact HBA.out.size)
  rw [← hpa] at HT0
  clear HT2 HE1 HS1 HB1 hpa hpb
  go_wp2
  go_loopw [24] (fun v wr => ∃ k : Nat, v = .int .i64 k ∧ Hid (k ≤ 4096) ∧ Aside0 (∃ K, Two wr pa K (fun k => k = pb) (fullN k p) (En.new 64) pa pb) ∧ Aside0 (Below w.heap.size w wr)) (fun v _ => 4096 - (intOf v).toNat)
  case atStart => exact ⟨0, rfl, Nat.zero_le _, HT0, HB2⟩
  case round =>
    obtain ⟨k, rfl, HK, HT, HB⟩ := hrel
    obtain ⟨K, hT⟩ := HT.out
    have HT := Aside0.mk hT
    clear hT
    have HF := Lib.hid (fullN_fine p HK.out)
    by_cases hlt : k < 4096
    · have k1 : (k : Int) < 4096 := by omega
      have k0 : (0 : Int) ≤ k := by omega
      have HLT := Lib.hid hlt
      clear hlt
      go_wp2_with (go_at_call 7; refine (linkPush_calls wr pa K (fullN k p) pa _ _ p HF.out HT.out.a (Kd.C_below HX.out HB.out) (by have := HL.out; omega) (by rw [fullN_out]; have := HLT.out; simp only [fullN]; omega)).mono ?_; rintro e w6 ⟨rfl, K6, hz, hm⟩; have HT6 := Aside0.mk (HT.out.left hz hm); have HB6 := Aside0.mk (HB.out.trans (hm.below.mono HPA.out)); clear hz hm)
      go_roundw
      case rel => exact ⟨k + 1, by go_num, HLT.out, ⟨K6, by have h := HT6.out; rw [fullN_push] at h; exact h⟩, HB6⟩
      case measure => simp [intOf]; have := HLT.out; omega
    · have k1 : ¬ (k : Int) < 4096 := by omega
      have HM := Lib.hid (show k = 4096 by have := HK.out; omega)
      have k0 : (0 : Int) ≤ k := by omega
      clear hlt
      go_upto_region 14 with (first
        | (go_at_call 8; refine (fails_calls _ 0 (.num 11) _ _ (HG.out.below (below_alloc HB5.out _)) rfl rfl).mono ?_; rintro e w6 ⟨rfl, hb⟩; have HT6 := Aside0.mk ((HT5.out.stay (below_alloc (Below.refl _ _) _)).stay hb); have HB6 := Aside0.mk (below_step (below_alloc HB5.out _) hb); clear hb)
        | (go_at_call 7; refine (pushFull_calls _ pa K (fullN k p).commit pa _ _ p HF.out.commit HT4.out.a (by have := HL.out; omega) (by show _ ≤ (fullN k p).out.length; rw [fullN_out, HM.out]; exact Nat.le_refl _)).mono ?_; rintro e w5 ⟨rfl, hd⟩; have HT5 := Aside0.mk (Two.drawn HT4.out hd); have HB5 := Aside0.mk (show Below w.heap.size w w5 from by obtain ⟨⟨n, rfl⟩⟩ := hd; exact pw_below_drewN HB4.out _); clear hd)
        | (go_at_call 10; refine (linkCommit_calls _ pa K (fullN k p) pa HF.out HT3.out.a).mono ?_; rintro e w4 ⟨rfl, hz, hm⟩; have HT4 := Aside0.mk (HT3.out.left hz hm); have HB4 := Aside0.mk (HB3.out.trans (hm.below.mono HPA.out)); clear hz hm)
        | (go_at_call 8; refine (fails_calls _ 0 (.num 11) _ _ (HG.out.below (below_alloc HB1.out _)) rfl rfl).mono ?_; rintro e w3 ⟨rfl, hb⟩; have HT3 := Aside0.mk ((HT1.out.stay (below_alloc (Below.refl _ _) _)).stay hb); have HB3 := Aside0.mk (below_step (below_alloc HB1.out _) hb); clear hb)
        | (go_at_call 9; refine (refN_calls _ 11).mono ?_; rintro e w9 ⟨rfl, rfl⟩)
        | (go_at_call 7; refine (pushFull_calls _ pa K (fullN k p) pa _ _ p HF.out HT.out.a (by have := HL.out; omega) (by rw [fullN_out, HM.out]; exact Nat.le_refl _)).mono ?_; rintro e w1 ⟨rfl, hd⟩; have HT1 := Aside0.mk (Two.drawn HT.out hd); have HB1 := Aside0.mk (show Below w.heap.size w w1 from by obtain ⟨⟨n, rfl⟩⟩ := hd; exact pw_below_drewN HB.out _); clear hd))
      have HSL := Lib.hid (show ∀ m ∈ (fullN k p).commit.out, m.length ≤ 1000 from fun m hm => by
        have h : m = p := List.eq_of_mem_replicate (show m ∈ List.replicate k p from hm)
        rw [h]; have := HL.out; omega)
      have HRC := Lib.hid (full_rcvd (n := k) p (by have := HM.out; omega))
      have HFC := Lib.hid HF.out.commit
      have HWL := Lib.hid (show (wl (fullN k p).commit).length = 64 by rw [full_wl p (by have := HM.out; omega), List.length_replicate])
      have HWM := Lib.hid (show ∀ m ∈ wl (fullN k p).commit, m.length ≤ 1000 from fun m hm => HSL.out m (List.mem_of_mem_take (List.mem_of_mem_drop hm)))
      go_upto_region 16 with (first
        | (go_at_call 12; refine (linkReceive_calls _ pa _ (En.new 64) pb 0 0 _ _ (wl (fullN k p).commit) (pkt (fullN k p).commit) 9 (enFine_new 64 (by decide) (by decide)) HT7.out.b rfl (Kd.R_reads' HP7.out).2.2 (Kd.R_reads' HP7.out).2.1 (Nat.zero_le _) (by decide) HWM.out (by rw [HWL.out]; decide)).mono ?_; rintro e w8 ⟨A8, c8, rfl, hq, hz, hm⟩; have HT8 := Aside0.mk (HT7.out.right hz hm); have HB8 := Aside0.mk (HB7.out.trans (hm.below.mono HPA.out)); clear hz hm hq)
        | (go_at_call 11; refine (linkPacket_calls w6 pa K (fullN k p).commit pa HFC.out HT6.out.a HSL.out (.inl (by show 0 < (fullN k p).out.length; rw [fullN_out, HM.out]; decide))).mono ?_; rintro e w7 ⟨A7, c7, rfl, hp, hz, hm⟩; have HP7 := Aside0.mk hp; have HT7 := Aside0.mk (HT6.out.left hz hm); have HB7 := Aside0.mk (HB6.out.trans (hm.below.mono HPA.out)); clear hp hz hm))
      rw [HRC.out]
      obtain ⟨NB, hNB⟩ : ∃ NB, NB = (En.new 64).recv 0 0 9 (wl (fullN k p).commit) := ⟨_, rfl⟩
      rw [← hNB] at HT8
      have HFB := Lib.hid (show EnFine NB by rw [hNB]; exact (enFine_new 64 (by decide) (by decide)).recv (Nat.le_refl _) (by rw [HWL.out]; decide))
      have HNB := Lib.hid (show NB.out = [] ∧ NB.so = 0 ∧ NB.tld = 0 ∧ NB.got = 9 ∧ NB.rcv = true by
        rw [hNB]
        refine ⟨rfl, rfl, rfl, ?_, ?_⟩
        · show 0 + _ = 9
          rw [Nat.zero_add]; exact HRC.out
        · show (false || decide (0 < (wl (fullN k p).commit).length)) = true
          rw [HWL.out]; rfl)
      obtain ⟨F, hF⟩ : ∃ F, F = (fullN k p).commit.sent := ⟨_, rfl⟩
      have HT8 := Aside0.mk (show Two w8 pa K (fun k => k = pb) F NB pa pb by rw [hF]; exact HT8.out)
      have HFF := Lib.hid (show EnFine F by rw [hF]; exact HFC.out.sent)
      have HFN := Lib.hid (show F.out.length = 4096 ∧ F.so = 4096 ∧ F.tld = 0 ∧ F.got = 0 by
        rw [hF]
        have h : (fullN k p).out.length = 4096 := by rw [fullN_out, HM.out]
        exact ⟨h, h, rfl, rfl⟩)
      have HPK := Lib.hid (show pkt NB.commit = putAll (uintsF 9 ++ uintsF 0) [] by
        unfold pkt
        have h1 : NB.commit.sg = 9 := HNB.out.2.2.2.1
        have h2 : NB.commit.tld = 0 := HNB.out.2.2.1
        have h3 : wl NB.commit = [] := by
          unfold wl
          have : NB.commit.out = [] := HNB.out.1
          rw [this]; simp
        rw [h1, h2, h3])
      have HBO := Lib.hid (show ∀ m ∈ NB.commit.out, m.length ≤ 1000 from fun m hm => by
        have : NB.commit.out = [] := HNB.out.1
        rw [this] at hm; cases hm)
      clear hNB hF HRC HSL HFC HWL HWM HT HT1 HT3 HT4 HT5 HT6 HT7 HP7
      go_upto_region 18 with (go_at_call 10; refine (linkCommit_calls _ pa _ NB pb HFB.out HT8.out.b).mono ?_; rintro e w9 ⟨rfl, hz, hm⟩; have HT9 := Aside0.mk (HT8.out.right hz hm); have HB9 := Aside0.mk (HB8.out.trans (hm.below.mono HPA.out)); clear hz hm)
      go_upto_region 20 with (first
        | (go_at_call 12; refine (linkReceive_calls _ pa K F pa 9 0 _ _ [] (pkt NB.commit) 9 HFF.out HT10.out.a HPK.out (Kd.R_reads' HP10.out).2.2 (Kd.R_reads' HP10.out).2.1 (by rw [HFN.out.2.1]; decide) (by decide) (fun m hm => by cases hm) (by decide)).mono ?_; rintro e w11 ⟨A11, c11, rfl, hq, hz, hm⟩; have HT11 := Aside0.mk (HT10.out.left hz hm); have HB11 := Aside0.mk (HB10.out.trans (hm.below.mono HPA.out)); clear hz hm hq)
        | (go_at_call 11; refine (linkPacket_calls w9 pa _ NB.commit pb HFB.out.commit HT9.out.b HBO.out (.inr HNB.out.2.2.2.2)).mono ?_; rintro e w10 ⟨A10, c10, rfl, hp, hz, hm⟩; have HP10 := Aside0.mk hp; have HT10 := Aside0.mk (HT9.out.right hz hm); have HB10 := Aside0.mk (HB9.out.trans (hm.below.mono HPA.out)); clear hp hz hm))
      obtain ⟨G, hG⟩ : ∃ G, G = F.recv 9 0 9 [] := ⟨_, rfl⟩
      rw [← hG] at HT11
      have HFG := Lib.hid (show EnFine G by rw [hG]; exact HFF.out.recv (by rw [HFN.out.2.1]; decide) (by rw [HFN.out.2.2.2]; decide))
      have HGN := Lib.hid (show G.out.length = 4096 ∧ (G.so : Int) - G.tld = 4087 ∧ G.tld = 9 by
        rw [hG]
        have h1 : (F.recv 9 0 9 []).tld = 9 := by show max F.tld 9 = 9; rw [HFN.out.2.2.1]; rfl
        have h2 : (F.recv 9 0 9 []).so = 4096 := HFN.out.2.1
        exact ⟨HFN.out.1, by rw [h1, h2]; rfl, h1⟩)
      clear hG
      go_wp2_with (first
        | (go_at_call 7; refine (linkPush_calls w12 pa K G pa _ _ p HFG.out HT12.out.a (Kd.C_below HX.out HB12.out) (by have := HL.out; omega) (by rw [HGN.out.1, HGN.out.2.2]; decide)).mono ?_; rintro e w13 ⟨rfl, K13, hz, hm⟩; have HB13 := Aside0.mk (HB12.out.trans (hm.below.mono HPA.out)); clear hz hm)
        | (go_at_call 13; refine (linkOpen_calls _ pa K G pa HFG.out HT11.out.a).mono ?_; rw [HGN.out.2.1]; rintro e w12 ⟨rfl, hd⟩; have HT12 := Aside0.mk (Two.drawn HT11.out hd); have HB12 := Aside0.mk (show Below w.heap.size w w12 from by obtain ⟨⟨n, rfl⟩⟩ := hd; exact pw_below_drewN HB11.out _); clear hd))
      go_ret
      exact ⟨rfl, HB13.out⟩
end Go.Proofs.YtcdhjkkdenhmcaaDoor
