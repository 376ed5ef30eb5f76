/- link: LinkErrors. -/
import Derived.Test.YtcdhjkkdenhmcaaDoorLkVG
import Derived.Test.YtcdhjkkdenhmcaaDoorErP
import Derived.Deep.OwnRows
namespace Go.Proofs.YtcdhjkkdenhmcaaDoor
open Go.RowKit Go.Proofs.YtcdhjkkdenhmcaaDoorW.PrintWords Go.Proofs.YtcdhjkkdenhmcaaDoorW.PrintLast Go.Proofs.YtcdhjkkdenhmcaaDoorW.PrintMore
set_option linter.unusedVariables false
set_option linter.unusedSimpArgs false
theorem made_u8 (n : Nat) : madeCells #[Value.int .u8 0] n = (encs encB (List.replicate n (0 : UInt8))).toArray := by
  apply Array.ext
  · simp [madeCells, encs]
  · intro i h1 h2
    simp [madeCells, encs, encB, Nat.mod_one]
theorem make_zeros (n : Nat) (x : Int) (hx : x = (n : Int)) (hn : n ≤ 1000000) (W : World) : (Instr.makeSlice 22 (.int .i64 x) (.int .i64 x)).run Tryd.prog W = .ok (.slice (some ⟨W.heap.size, 0, none⟩) n n) (W.alloc (.cells (encs encB (List.replicate n (0 : UInt8))).toArray 5)) := by
  subst hx
  rw [← made_u8]
  exact run_make_row' _ _ (.int .u8 0) 1 Tryd.underlying22 info5 rfl .i64 .i64 n (by omega) (by omega) W
theorem recv_one {w' : World} {lo p : Nat} {K : Nat → Prop} {N : En} {e : Ending} (hg : N.got = 0) (h : e = .returned (.tuple #[.slice none 0 0, .iface 32 (.int .i64 3)]) ∧ IsEnd w' lo K N p ∨ ∃ A c n N', e = .returned (.tuple #[.slice A n c, .nilIface]) ∧ (n : Int) ≤ (3 : Int).toNat ∧ N'.got = N.got + n ∧ EnFine N' ∧ IsEnd w' lo K N' p) :
    ∃ A c n v N', e = .returned (.tuple #[.slice A n c, v]) ∧ ((v = .iface 32 (.int .i64 3) ∧ n = 0) ∨ v = .nilIface ∧ (n : Int) ≤ 3) ∧ N'.got = n ∧ IsEnd w' lo K N' p := by
  rcases h with ⟨rfl, h⟩ | ⟨A, c, n, N', rfl, h1, h2, h3, h4⟩
  · exact ⟨none, 0, 0, _, N, rfl, .inl ⟨rfl, rfl⟩, hg, h⟩
  · exact ⟨A, c, n, _, N', rfl, .inr ⟨rfl, h1⟩, by omega, h4⟩
set_option maxRecDepth 100000 in
set_option maxHeartbeats 4000000 in
theorem linkErrors_calls (w : World) (hg : Laid w) (wi lg : Int) (A0 : Option Addr) (c0 : Nat) (p : List UInt8) (hx : kB.C w A0 p.length p) (hc : p.length ≤ c0) (hm : p.length ≤ maxLen) :
    Calls Tryd.prog 4 #[.int .i64 wi, .int .i64 lg, .slice A0 p.length c0] w fun e w' => e = .returned (.bool true) ∧ Below w.heap.size w w' := by
  have HX := Aside0.mk hx
  have HG := Lib.hid hg
  have pl : (p.length : Int) ≤ 9223372036854775807 := by have h : maxLen = 9223372036854775807 := rfl; omega
  clear hx hc hg hm
  go_enter Tryd.func4, Tryd.ntmps4
  go_upto_region 3 with (go_at_call 5; refine (awake_calls w).mono ?_; rintro e wa ⟨rfl, hb⟩; have HBA := Aside0.mk hb; clear hb)
  by_cases g1 : lg < -3
  · have g1c : decide (lg < -3) = true := decide_eq_true g1
    go_wp2
    go_ret
    exact ⟨rfl, HBA.out⟩
  have g1c : decide (lg < -3) = false := decide_eq_false g1
  by_cases g2 : lg > 3
  · have g2c : decide (lg > 3) = true := decide_eq_true g2
    go_wp2
    go_ret
    exact ⟨rfl, HBA.out⟩
  have g2c : decide (lg > 3) = false := decide_eq_false g2
  by_cases g3 : (p.length : Int) > 1000
  · have g3c : decide ((p.length : Int) > 1000) = true := decide_eq_true g3
    go_wp2
    go_ret
    exact ⟨rfl, HBA.out⟩
  have g3c : decide ((p.length : Int) > 1000) = false := decide_eq_false g3
  have HPL := Lib.hid (show p.length ≤ 1000 by omega)
  by_cases g4 : wi < 1
  · have g4c : decide (wi < 1) = true := decide_eq_true g4
    have HN := Lib.hid (newBad_calls wa wi (.inl g4))
    go_wp2_with (first
      | (go_at_call 8; refine (fails_calls _ 0 (.num 1) _ _ (HG.out.below (below_alloc HBA.out _)) rfl rfl).mono ?_; rintro e w3 ⟨rfl, hb⟩; have HB3 := Aside0.mk (below_step (below_alloc HBA.out _) hb); clear hb)
      | (go_at_call 9; refine (refN_calls _ 1).mono ?_; rintro e w2 ⟨rfl, rfl⟩)
      | (go_at_call 6; refine HN.out.mono ?_; rintro e w1 ⟨rfl, rfl⟩))
    go_ret
    exact ⟨rfl, HB3.out⟩
  have g4c : decide (wi < 1) = false := decide_eq_false g4
  by_cases g5 : wi > 64
  · have g5c : decide (wi > 64) = true := decide_eq_true g5
    have HN := Lib.hid (newBad_calls wa wi (.inr g5))
    go_wp2_with (first
      | (go_at_call 8; refine (fails_calls _ 0 (.num 1) _ _ (HG.out.below (below_alloc HBA.out _)) rfl rfl).mono ?_; rintro e w3 ⟨rfl, hb⟩; have HB3 := Aside0.mk (below_step (below_alloc HBA.out _) hb); clear hb)
      | (go_at_call 9; refine (refN_calls _ 1).mono ?_; rintro e w2 ⟨rfl, rfl⟩)
      | (go_at_call 6; refine HN.out.mono ?_; rintro e w1 ⟨rfl, rfl⟩))
    go_ret
    exact ⟨rfl, HB3.out⟩
  have g5c : decide (wi > 64) = false := decide_eq_false g5
  obtain ⟨W, hW⟩ : ∃ W : Nat, wi = (W : Int) := ⟨wi.toNat, by omega⟩
  subst hW
  have HW1 := Lib.hid (show 1 ≤ W by omega)
  have HW2 := Lib.hid (show W ≤ 64 by omega)
  go_upto_region 8 with (go_at_call 6; refine (linkNew_calls wa W HW1.out HW2.out).mono ?_; rintro e w1 ⟨rfl, hE, hs, hb⟩; have HE1 := Aside0.mk hE; have HB1 := Aside0.mk (HBA.out.trans (hb.mono HBA.out.size)); clear hE hs hb)
  clear g1c g2c g3c g3 g4 g4c g5 g5c
  obtain ⟨pa, hpa⟩ : ∃ pa, pa = wa.heap.size := ⟨_, rfl⟩
  rw [← hpa] at HE1 ⊢
  have HPA := Lib.hid (show w.heap.size ≤ pa by rw [hpa]; exact HBA.out.size)
  clear hpa HBA
  obtain ⟨n, hn⟩ : ∃ n : Nat, 65536 + lg = (n : Int) := ⟨(65536 + lg).toNat, by omega⟩
  have hmk := make_zeros n (65536 + lg) hn (by omega)
  obtain ⟨zs, hzs⟩ : ∃ zs, zs = List.replicate n (0 : UInt8) := ⟨_, rfl⟩
  have hzl : zs.length = n := by rw [hzs, List.length_replicate]
  rw [← hzs] at hmk
  obtain ⟨cs, hcs⟩ : ∃ cs, cs = (encs encB zs).toArray := ⟨_, rfl⟩
  rw [← hcs] at hmk
  have HCS := Lib.hid hcs
  have HZL := Lib.hid hzl
  have HNB := Lib.hid (show n ≤ 65536 + 3 by omega)
  have HF0 := Lib.hid (enFine_new W HW1.out HW2.out)
  have d1 : -3 ≤ lg := by omega
  have d2 : lg ≤ 3 := by omega
  have HLG := Lib.hid hn
  clear hcs hzs hzl g1 g2 hn
  by_cases g6 : lg > 0
  case' pos =>
    have g6c : decide (lg > 0) = true := decide_eq_true g6
    have g7c : decide (lg ≤ 0) = false := decide_eq_false (by omega)
    have HNL := Lib.hid (show 65536 < n by have := HLG.out; omega)
    go_upto_region 11 with (first
      | (go_at_call 8; refine (fails_calls _ 0 (.num 2) _ _ (HG.out.below (below_alloc (below_alloc HB1.out _) _)) rfl rfl).mono ?_; rintro e w5 ⟨rfl, hb⟩; have HB5 := Aside0.mk (below_step (below_alloc (below_alloc HB1.out _) _) hb); have HT5 := Aside0.mk (show ∃ K N, (EnFine N ∧ N.got = 0) ∧ IsEnd w5 pa K N pa from ⟨_, _, ⟨HF0.out, rfl⟩, (((HE1.out.stay (below_alloc (Below.refl _ _) _)).stay (below_alloc (Below.refl _ _) _)).stay hb)⟩); clear hb)
      | (go_at_call 9; refine (refN_calls _ 2).mono ?_; rintro e w3 ⟨rfl, rfl⟩)
      | (go_at_call 7; refine (pushLong_calls _ pa _ n n HNL.out (by have := HNB.out; omega)).mono ?_; rintro e w2 ⟨rfl, rfl⟩))
  case' neg =>
    have g6c : decide (lg > 0) = false := decide_eq_false g6
    have g7c : decide (lg ≤ 0) = true := decide_eq_true (by omega)
    have HNL := Lib.hid (show n ≤ 65536 by have := HLG.out; omega)
    go_upto_region 11 with (go_at_call 7; obtain rfl := HZL.out; refine (linkPush_calls _ pa _ (En.new W) pa _ _ zs HF0.out (HE1.out.stay (below_alloc (Below.refl _ _) _)) (B_litC _ zs (by have := HNB.out; omega) rfl HCS.out rfl) HNL.out (show 0 < 0 + 4096 by decide)).mono ?_; rintro e w5 ⟨rfl, K5, hz, hm⟩; have HB5 := Aside0.mk ((below_alloc HB1.out _).trans (hm.below.mono HPA.out)); have HT5 := Aside0.mk (show ∃ K N, (EnFine N ∧ N.got = 0) ∧ IsEnd w5 pa K N pa from ⟨_, _, ⟨HF0.out.push _ (show 0 < 100000 by decide), rfl⟩, hz⟩); clear hz hm)
  all_goals
    clear HE1 HB1 HF0 HCS HZL HNB HNL HLG g6 g6c g7c hmk d1 d2
    obtain ⟨K, N, HFN, hT⟩ := HT5.out
    have HFN := Lib.hid HFN
    have HEN := Aside0.mk hT
    clear HT5 hT
    go_upto_region 12 with (first
      | (go_at_call 12; refine (receive_gen w6 pa K N pa c6 A6 p 3 HFN.out.1 (by rw [HFN.out.2]; decide) (HEN.out.stay HBS6.out) HC6.out HCC6.out HPL.out).mono ?_; rintro e w7 ⟨hp, hm⟩; have HB7 := Aside0.mk (HB6.out.trans (hm.below.mono HPA.out)); clear hm; obtain ⟨A7, c7, n7, v7, N7, rfl, hor, hng, hz⟩ := recv_one HFN.out.2 hp; have HZ7 := Aside0.mk hz; clear hz hp)
      | (go_at_call 14; refine (twin_calls _ _ _ p (Kd.C_below HX.out HB5.out) (by have := HPL.out; omega)).mono ?_; intro e w6 h6; obtain ⟨A6, c6, rfl, hcl, hR, hC, hb⟩ := h6.open_; have HC6 := Aside0.mk hC; have HCC6 := Lib.hid hcl; have HBS6 := Aside0.mk hb; have HB6 := Aside0.mk (below_step HB5.out hb); clear h6 hR hC hb hcl))
    have HNG := Lib.hid hng
    rcases hor with ⟨rfl, rfl⟩ | ⟨rfl, hn3⟩
    · have hgt : (N7.got : Int) = 0 := by have := HNG.out; omega
      go_upto_region 15 with (first
        | (go_at_call 15; refine (linkGot_calls _ pa K N7 pa (HZ7.out.stay HBS8.out)).mono ?_; rw [hgt]; rintro e w9 ⟨rfl, hd⟩; have HB9 := Aside0.mk (show Below w.heap.size w w9 from by obtain ⟨⟨n, rfl⟩⟩ := hd; exact pw_below_drewN HB8.out _); clear hd)
        | (go_at_call 8; refine (fails_calls _ 0 (.num 3) _ _ (HG.out.below (below_alloc HB7.out _)) rfl rfl).mono ?_; rintro e w8 ⟨rfl, hb⟩; have HB8 := Aside0.mk (below_step (below_alloc HB7.out _) hb); have HBS8 := Aside0.mk (show Below w7.heap.size w7 w8 from below_step (below_alloc (Below.refl _ _) _) hb); clear hb)
        | (go_at_call 9; refine (refN_calls _ 3).mono ?_; rintro e w10 ⟨rfl, rfl⟩))
      clear hgt HZ7 HNG
      go_cut [13] (fun s13 wx => ∃ g, s13 = .pointer (some ⟨g, 0, none⟩) ∧ Aside0 (wx.heap[g]? = some (.cells #[.bool true, .slice none 0 0, .int .i64 19] 34 (0, 0))) ∧ Aside0 (Below w.heap.size w wx))
      case first =>
        go_wp2_with (go_at_call 9; refine (refN_calls _ 19).mono ?_; rintro e w12 ⟨rfl, rfl⟩)
        go_meet
        case rel => exact ⟨_, rfl, ⟨heap_alloc_here _ _ _ (by simp)⟩, ⟨below_alloc (below_alloc HB9.out _) _⟩⟩
      case rest =>
        obtain ⟨g, rfl, HE, HB⟩ := hcut
        clear HB9
        go_wp2_with (first
          | (go_at_call 11; refine (packetNil_calls _).mono ?_; rintro e wd ⟨rfl, hd⟩; have HBD := Aside0.mk (show Below wc.heap.size wc wd from by obtain ⟨⟨n, rfl⟩⟩ := hd; exact pw_below_drewN (Below.refl _ _) _); clear hd)
          | (go_at_call 12; refine (receiveNil_calls _ _ _).mono ?_; rintro e w1 ⟨rfl, hw⟩; rw [hw]; clear hw))
        refine wp_region_noPanic ?_
        refine wp_region_held_drew (S := fun W => Below wc.heap.size wc W) (by kernel_rfl) (HBD.out.drew) (fun hHeld => ?_)
        refine wpAnyH_take (i := 0) (v := ?_) rfl (by kernel_rfl) (by kernel_rfl) (by kernel_rfl) (fun _ _ _ h => h) (Or.inl ⟨by rfl, ?_⟩) (by assumption) ?_
        rotate_left 1
        · first | (intro w hSw; go_simp; done) | (intro w hSw; go_simp; with_reducible rfl)
        try simp only [Act.put, List.getElem_toArray, List.getElem_cons_zero, List.getElem_cons_succ, List.setIfInBounds_toArray, List.set_cons_zero, List.set_cons_succ]
        refine wpAnyH_take (i := 1) (v := ?_) rfl (by kernel_rfl) (by kernel_rfl) (by kernel_rfl) (fun _ _ _ h => h) (Or.inl ⟨by rfl, ?_⟩) (by assumption) ?_
        rotate_left 1
        · first | (intro w hSw; go_simp; done) | (intro w hSw; go_simp; with_reducible rfl)
        try simp only [Act.put, List.getElem_toArray, List.getElem_cons_zero, List.getElem_cons_succ, List.setIfInBounds_toArray, List.set_cons_zero, List.set_cons_succ]
        refine wpAnyH_take (i := 3) (v := ?_) rfl (by kernel_rfl) (by kernel_rfl) (by kernel_rfl) (fun _ _ _ h => h) (Or.inl ⟨by rfl, ?_⟩) (by assumption) ?_
        rotate_left 1
        · first | (intro w hSw; obtain ⟨⟨q0, q1, q2⟩, _⟩ := E_cells (x := (0, 0)) ((hSw.block _ (blk_lt HE.out)).trans HE.out); go_simp; done) | (intro w hSw; obtain ⟨⟨q0, q1, q2⟩, _⟩ := E_cells (x := (0, 0)) ((hSw.block _ (blk_lt HE.out)).trans HE.out); go_simp; with_reducible rfl)
        try simp only [Act.put, List.getElem_toArray, List.getElem_cons_zero, List.getElem_cons_succ, List.setIfInBounds_toArray, List.set_cons_zero, List.set_cons_succ]
        refine wpAnyH_ready (rs := [2]) (by kernel_rfl) (by simp) ?_
        refine AllReadyH.cons rfl (fun K hK => ?_) AllReadyH.nil
        go_simp
        refine (pushNil_calls _ _).mono ?_; rintro e w1 ⟨rfl, rfl⟩
        go_simp
        refine hK.out _ _ hHeld (fun hHeld => ?_)
        clear hK K
        try simp only [Act.put, List.getElem_toArray, List.getElem_cons_zero, List.getElem_cons_succ, List.setIfInBounds_toArray, List.set_cons_zero, List.set_cons_succ]
        refine wpAnyH_ready (rs := [4]) (by kernel_rfl) (by simp) ?_
        refine AllReadyH.cons rfl (fun K hK => ?_) AllReadyH.nil
        go_simp
        refine (fails_calls _ 0 (.num 19) _ _ (HG.out.below (below_step HB.out hHeld)) rfl rfl).mono ?_; rintro e w1 ⟨rfl, hb⟩; have hH1 := below_step hHeld hb; clear hb
        go_simp
        refine hK.out _ _ hH1 (fun hHeld => ?_)
        clear hK K
        try simp only [Act.put, List.getElem_toArray, List.getElem_cons_zero, List.getElem_cons_succ, List.setIfInBounds_toArray, List.set_cons_zero, List.set_cons_succ]
        refine wpAnyH_take (i := 5) (v := ?_) rfl (by kernel_rfl) (by kernel_rfl) (by kernel_rfl) (fun _ _ _ h => h) (Or.inl ⟨by rfl, ?_⟩) (by assumption) ?_
        rotate_left 1
        · first | (intro w hSw; go_simp; done) | (intro w hSw; go_simp; with_reducible rfl)
        try simp only [Act.put, List.getElem_toArray, List.getElem_cons_zero, List.getElem_cons_succ, List.setIfInBounds_toArray, List.set_cons_zero, List.set_cons_succ]
        refine wpAnyH_take (i := 6) (v := ?_) rfl (by kernel_rfl) (by kernel_rfl) (by kernel_rfl) (fun _ _ _ h => h) (Or.inl ⟨by rfl, ?_⟩) (by assumption) ?_
        rotate_left 1
        · first | (intro w hSw; go_simp; done) | (intro w hSw; go_simp; with_reducible rfl)
        try simp only [Act.put, List.getElem_toArray, List.getElem_cons_zero, List.getElem_cons_succ, List.setIfInBounds_toArray, List.set_cons_zero, List.set_cons_succ]
        refine wpAnyH_take (i := 7) (v := ?_) rfl (by kernel_rfl) (by kernel_rfl) (by kernel_rfl) (fun _ _ _ h => h) (Or.inl ⟨by rfl, ?_⟩) (by assumption) ?_
        rotate_left 1
        · first | (intro w hSw; obtain ⟨⟨q0, q1, q2⟩, _⟩ := E_cells (x := (0, 0)) ((hSw.block _ (blk_lt HE.out)).trans HE.out); go_simp; done) | (intro w hSw; obtain ⟨⟨q0, q1, q2⟩, _⟩ := E_cells (x := (0, 0)) ((hSw.block _ (blk_lt HE.out)).trans HE.out); go_simp; with_reducible rfl)
        try simp only [Act.put, List.getElem_toArray, List.getElem_cons_zero, List.getElem_cons_succ, List.setIfInBounds_toArray, List.set_cons_zero, List.set_cons_succ]
        refine wpAnyH_ready (rs := [8]) (by kernel_rfl) (by simp) ?_
        refine AllReadyH.cons rfl (fun K hK => ?_) AllReadyH.nil
        go_simp
        refine (fails_calls _ 0 (.num 19) _ _ (HG.out.below (below_step HB.out hHeld)) rfl rfl).mono ?_; rintro e w1 ⟨rfl, hb⟩; have hH1 := below_step hHeld hb; clear hb
        go_simp
        refine hK.out _ _ hH1 (fun hHeld => ?_)
        clear hK K
        try simp only [Act.put, List.getElem_toArray, List.getElem_cons_zero, List.getElem_cons_succ, List.setIfInBounds_toArray, List.set_cons_zero, List.set_cons_succ]
        refine wpAnyH_take (i := 9) (v := ?_) rfl (by kernel_rfl) (by kernel_rfl) (by kernel_rfl) (fun _ _ _ h => h) (Or.inl ⟨by rfl, ?_⟩) (by assumption) ?_
        rotate_left 1
        · first | (intro w hSw; go_simp; done) | (intro w hSw; go_simp; with_reducible rfl)
        try simp only [Act.put, List.getElem_toArray, List.getElem_cons_zero, List.getElem_cons_succ, List.setIfInBounds_toArray, List.set_cons_zero, List.set_cons_succ]
        refine wpAnyH_take (i := 10) (v := ?_) rfl (by kernel_rfl) (by kernel_rfl) (by kernel_rfl) (fun _ _ _ h => h) (Or.inl ⟨by rfl, ?_⟩) (by assumption) ?_
        rotate_left 1
        · first | (intro w hSw; go_simp; done) | (intro w hSw; go_simp; with_reducible rfl)
        try simp only [Act.put, List.getElem_toArray, List.getElem_cons_zero, List.getElem_cons_succ, List.setIfInBounds_toArray, List.set_cons_zero, List.set_cons_succ]
        refine wpAnyH_take (i := 11) (v := ?_) rfl (by kernel_rfl) (by kernel_rfl) (by kernel_rfl) (fun _ _ _ h => h) (Or.inl ⟨by rfl, ?_⟩) (by assumption) ?_
        rotate_left 1
        · first | (intro w hSw; go_simp; done) | (intro w hSw; go_simp; with_reducible rfl)
        try simp only [Act.put, List.getElem_toArray, List.getElem_cons_zero, List.getElem_cons_succ, List.setIfInBounds_toArray, List.set_cons_zero, List.set_cons_succ]
        refine wpAnyH_take (i := 13) (v := ?_) rfl (by kernel_rfl) (by kernel_rfl) (by kernel_rfl) (fun _ _ _ h => h) (Or.inl ⟨by rfl, ?_⟩) (by assumption) ?_
        rotate_left 1
        · first | (intro w hSw; obtain ⟨⟨q0, q1, q2⟩, _⟩ := E_cells (x := (0, 0)) ((hSw.block _ (blk_lt HE.out)).trans HE.out); go_simp; done) | (intro w hSw; obtain ⟨⟨q0, q1, q2⟩, _⟩ := E_cells (x := (0, 0)) ((hSw.block _ (blk_lt HE.out)).trans HE.out); go_simp; with_reducible rfl)
        try simp only [Act.put, List.getElem_toArray, List.getElem_cons_zero, List.getElem_cons_succ, List.setIfInBounds_toArray, List.set_cons_zero, List.set_cons_succ]
        refine wpAnyH_ready (rs := [12]) (by kernel_rfl) (by simp) ?_
        refine AllReadyH.cons rfl (fun K hK => ?_) AllReadyH.nil
        go_simp
        refine (commitNil_calls _).mono ?_; rintro e w1 ⟨rfl, rfl⟩
        go_simp
        refine hK.out _ _ hHeld (fun hHeld => ?_)
        clear hK K
        try simp only [Act.put, List.getElem_toArray, List.getElem_cons_zero, List.getElem_cons_succ, List.setIfInBounds_toArray, List.set_cons_zero, List.set_cons_succ]
        refine wpAnyH_ready (rs := [14]) (by kernel_rfl) (by simp) ?_
        refine AllReadyH.cons rfl (fun K hK => ?_) AllReadyH.nil
        go_simp
        refine (fails_calls _ 0 (.num 19) _ _ (HG.out.below (below_step HB.out hHeld)) rfl rfl).mono ?_; rintro e w1 ⟨rfl, hb⟩; have hH1 := below_step hHeld hb; clear hb
        go_simp
        refine hK.out _ _ hH1 (fun hHeld => ?_)
        clear hK K
        try simp only [Act.put, List.getElem_toArray, List.getElem_cons_zero, List.getElem_cons_succ, List.setIfInBounds_toArray, List.set_cons_zero, List.set_cons_succ]
        refine wpAnyH_take (i := 15) (v := ?_) rfl (by kernel_rfl) (by kernel_rfl) (by kernel_rfl) (fun _ _ _ h => h) (Or.inl ⟨by rfl, ?_⟩) (by assumption) ?_
        rotate_left 1
        · first | (intro w hSw; go_simp; done) | (intro w hSw; go_simp; with_reducible rfl)
        try simp only [Act.put, List.getElem_toArray, List.getElem_cons_zero, List.getElem_cons_succ, List.setIfInBounds_toArray, List.set_cons_zero, List.set_cons_succ]
        refine wpAnyH_take (i := 16) (v := ?_) rfl (by kernel_rfl) (by kernel_rfl) (by kernel_rfl) (fun _ _ _ h => h) (Or.inl ⟨by rfl, ?_⟩) (by assumption) ?_
        rotate_left 1
        · first | (intro w hSw; go_simp; done) | (intro w hSw; go_simp; with_reducible rfl)
        try simp only [Act.put, List.getElem_toArray, List.getElem_cons_zero, List.getElem_cons_succ, List.setIfInBounds_toArray, List.set_cons_zero, List.set_cons_succ]
        refine wpAnyH_take (i := 17) (v := ?_) rfl (by kernel_rfl) (by kernel_rfl) (by kernel_rfl) (fun _ _ _ h => h) (Or.inl ⟨by rfl, ?_⟩) (by assumption) ?_
        rotate_left 1
        · first | (intro w hSw; go_simp; done) | (intro w hSw; go_simp; with_reducible rfl)
        try simp only [Act.put, List.getElem_toArray, List.getElem_cons_zero, List.getElem_cons_succ, List.setIfInBounds_toArray, List.set_cons_zero, List.set_cons_succ]
        refine wpAnyH_take (i := 19) (v := ?_) rfl (by kernel_rfl) (by kernel_rfl) (by kernel_rfl) (fun _ _ _ h => h) (Or.inl ⟨by rfl, ?_⟩) (by assumption) ?_
        rotate_left 1
        · first | (intro w hSw; obtain ⟨⟨q0, q1, q2⟩, _⟩ := E_cells (x := (0, 0)) ((hSw.block _ (blk_lt HE.out)).trans HE.out); go_simp; done) | (intro w hSw; obtain ⟨⟨q0, q1, q2⟩, _⟩ := E_cells (x := (0, 0)) ((hSw.block _ (blk_lt HE.out)).trans HE.out); go_simp; with_reducible rfl)
        try simp only [Act.put, List.getElem_toArray, List.getElem_cons_zero, List.getElem_cons_succ, List.setIfInBounds_toArray, List.set_cons_zero, List.set_cons_succ]
        refine wpAnyH_ready (rs := [18]) (by kernel_rfl) (by simp) ?_
        refine AllReadyH.cons rfl (fun K hK => ?_) AllReadyH.nil
        go_simp
        refine (crashNil_calls _).mono ?_; rintro e w1 ⟨rfl, rfl⟩
        go_simp
        refine hK.out _ _ hHeld (fun hHeld => ?_)
        clear hK K
        try simp only [Act.put, List.getElem_toArray, List.getElem_cons_zero, List.getElem_cons_succ, List.setIfInBounds_toArray, List.set_cons_zero, List.set_cons_succ]
        refine wpAnyH_ready (rs := [20]) (by kernel_rfl) (by simp) ?_
        refine AllReadyH.cons rfl (fun K hK => ?_) AllReadyH.nil
        go_simp
        refine (fails_calls _ 0 (.num 19) _ _ (HG.out.below (below_step HB.out hHeld)) rfl rfl).mono ?_; rintro e w1 ⟨rfl, hb⟩; have hH1 := below_step hHeld hb; clear hb
        go_simp
        refine hK.out _ _ hH1 (fun hHeld => ?_)
        clear hK K
        try simp only [Act.put, List.getElem_toArray, List.getElem_cons_zero, List.getElem_cons_succ, List.setIfInBounds_toArray, List.set_cons_zero, List.set_cons_succ]
        refine wpAnyH_take (i := 21) (v := ?_) rfl (by kernel_rfl) (by kernel_rfl) (by kernel_rfl) (fun _ _ _ h => h) (Or.inl ⟨by rfl, ?_⟩) (by assumption) ?_
        rotate_left 1
        · first | (intro w hSw; go_simp; done) | (intro w hSw; go_simp; with_reducible rfl)
        try simp only [Act.put, List.getElem_toArray, List.getElem_cons_zero, List.getElem_cons_succ, List.setIfInBounds_toArray, List.set_cons_zero, List.set_cons_succ]
        refine wpAnyH_take (i := 22) (v := ?_) rfl (by kernel_rfl) (by kernel_rfl) (by kernel_rfl) (fun _ _ _ h => h) (Or.inl ⟨by rfl, ?_⟩) (by assumption) ?_
        rotate_left 1
        · first | (intro w hSw; go_simp; done) | (intro w hSw; go_simp; with_reducible rfl)
        try simp only [Act.put, List.getElem_toArray, List.getElem_cons_zero, List.getElem_cons_succ, List.setIfInBounds_toArray, List.set_cons_zero, List.set_cons_succ]
        refine wpAnyH_take (i := 23) (v := ?_) rfl (by kernel_rfl) (by kernel_rfl) (by kernel_rfl) (fun _ _ _ h => h) (Or.inl ⟨by rfl, ?_⟩) (by assumption) ?_
        rotate_left 1
        · first | (intro w hSw; go_simp; done) | (intro w hSw; go_simp; with_reducible rfl)
        try simp only [Act.put, List.getElem_toArray, List.getElem_cons_zero, List.getElem_cons_succ, List.setIfInBounds_toArray, List.set_cons_zero, List.set_cons_succ]
        refine wpAnyH_take (i := 24) (v := ?_) rfl (by kernel_rfl) (by kernel_rfl) (by kernel_rfl) (fun _ _ _ h => h) (Or.inl ⟨by rfl, ?_⟩) (by assumption) ?_
        rotate_left 1
        · first | (intro w hSw; go_simp; done) | (intro w hSw; go_simp; with_reducible rfl)
        try simp only [Act.put, List.getElem_toArray, List.getElem_cons_zero, List.getElem_cons_succ, List.setIfInBounds_toArray, List.set_cons_zero, List.set_cons_succ]
        refine wpAnyH_take (i := 25) (v := ?_) rfl (by kernel_rfl) (by kernel_rfl) (by kernel_rfl) (fun _ _ _ h => h) (Or.inl ⟨by rfl, ?_⟩) (by assumption) ?_
        rotate_left 1
        · first | (intro w hSw; go_simp; done) | (intro w hSw; go_simp; with_reducible rfl)
        try simp only [Act.put, List.getElem_toArray, List.getElem_cons_zero, List.getElem_cons_succ, List.setIfInBounds_toArray, List.set_cons_zero, List.set_cons_succ]
        refine wpAnyH_take (i := 26) (v := ?_) rfl (by kernel_rfl) (by kernel_rfl) (by kernel_rfl) (fun _ _ _ h => h) (Or.inl ⟨by rfl, ?_⟩) (by assumption) ?_
        rotate_left 1
        · first | (intro w hSw; go_simp; done) | (intro w hSw; go_simp; with_reducible rfl)
        try simp only [Act.put, List.getElem_toArray, List.getElem_cons_zero, List.getElem_cons_succ, List.setIfInBounds_toArray, List.set_cons_zero, List.set_cons_succ]
        refine wpAnyH_take (i := 27) (v := ?_) rfl (by kernel_rfl) (by kernel_rfl) (by kernel_rfl) (fun _ _ _ h => h) (Or.inl ⟨by rfl, ?_⟩) (by assumption) ?_
        rotate_left 1
        · first | (intro w hSw; go_simp; done) | (intro w hSw; go_simp; with_reducible rfl)
        try simp only [Act.put, List.getElem_toArray, List.getElem_cons_zero, List.getElem_cons_succ, List.setIfInBounds_toArray, List.set_cons_zero, List.set_cons_succ]
        refine wpAnyH_take (i := 28) (v := ?_) rfl (by kernel_rfl) (by kernel_rfl) (by kernel_rfl) (fun _ _ _ h => h) (Or.inl ⟨by rfl, ?_⟩) (by assumption) ?_
        rotate_left 1
        · first | (intro w hSw; go_simp; done) | (intro w hSw; go_simp; with_reducible rfl)
        try simp only [Act.put, List.getElem_toArray, List.getElem_cons_zero, List.getElem_cons_succ, List.setIfInBounds_toArray, List.set_cons_zero, List.set_cons_succ]
        refine wpAnyH_take (i := 29) (v := ?_) rfl (by kernel_rfl) (by kernel_rfl) (by kernel_rfl) (fun _ _ _ h => h) (Or.inl ⟨by rfl, ?_⟩) (by assumption) ?_
        rotate_left 1
        · first | (intro w hSw; go_simp; done) | (intro w hSw; go_simp; with_reducible rfl)
        try simp only [Act.put, List.getElem_toArray, List.getElem_cons_zero, List.getElem_cons_succ, List.setIfInBounds_toArray, List.set_cons_zero, List.set_cons_succ]
        refine wpAnyH_take (i := 30) (v := ?_) rfl (by kernel_rfl) (by kernel_rfl) (by kernel_rfl) (fun _ _ _ h => h) (Or.inl ⟨by rfl, ?_⟩) (by assumption) ?_
        rotate_left 1
        · first | (intro w hSw; go_simp; done) | (intro w hSw; go_simp; with_reducible rfl)
        try simp only [Act.put, List.getElem_toArray, List.getElem_cons_zero, List.getElem_cons_succ, List.setIfInBounds_toArray, List.set_cons_zero, List.set_cons_succ]
        refine wpAnyH_take (i := 31) (v := ?_) rfl (by kernel_rfl) (by kernel_rfl) (by kernel_rfl) (fun _ _ _ h => h) (Or.inl ⟨by rfl, ?_⟩) (by assumption) ?_
        rotate_left 1
        · first | (intro w hSw; go_simp; done) | (intro w hSw; go_simp; with_reducible rfl)
        try simp only [Act.put, List.getElem_toArray, List.getElem_cons_zero, List.getElem_cons_succ, List.setIfInBounds_toArray, List.set_cons_zero, List.set_cons_succ]
        refine wpAnyH_take (i := 32) (v := ?_) rfl (by kernel_rfl) (by kernel_rfl) (by kernel_rfl) (fun _ _ _ h => h) (Or.inl ⟨by rfl, ?_⟩) (by assumption) ?_
        rotate_left 1
        · first | (intro w hSw; go_simp; done) | (intro w hSw; go_simp; with_reducible rfl)
        try simp only [Act.put, List.getElem_toArray, List.getElem_cons_zero, List.getElem_cons_succ, List.setIfInBounds_toArray, List.set_cons_zero, List.set_cons_succ]
        refine wpAnyH_take (i := 34) (v := ?_) rfl (by kernel_rfl) (by kernel_rfl) (by kernel_rfl) (fun _ _ _ h => h) (Or.inl ⟨by rfl, ?_⟩) (by assumption) ?_
        rotate_left 1
        · first | (intro w hSw; go_simp; done) | (intro w hSw; go_simp; with_reducible rfl)
        try simp only [Act.put, List.getElem_toArray, List.getElem_cons_zero, List.getElem_cons_succ, List.setIfInBounds_toArray, List.set_cons_zero, List.set_cons_succ]
        refine wpAnyH_take (i := 37) (v := ?_) rfl (by kernel_rfl) (by kernel_rfl) (by kernel_rfl) (fun _ _ _ h => h) (Or.inl ⟨by rfl, ?_⟩) (by assumption) ?_
        rotate_left 1
        · first | (intro w hSw; go_simp; done) | (intro w hSw; go_simp; with_reducible rfl)
        try simp only [Act.put, List.getElem_toArray, List.getElem_cons_zero, List.getElem_cons_succ, List.setIfInBounds_toArray, List.set_cons_zero, List.set_cons_succ]
        refine wpAnyH_ready (rs := [33]) (by kernel_rfl) (by simp) ?_
        refine AllReadyH.cons rfl (fun K hK => ?_) AllReadyH.nil
        go_simp
        refine (sentNil_calls _).mono ?_; rintro e w1 ⟨rfl, rfl⟩
        go_simp
        refine hK.out _ _ hHeld (fun hHeld => ?_)
        clear hK K
        try simp only [Act.put, List.getElem_toArray, List.getElem_cons_zero, List.getElem_cons_succ, List.setIfInBounds_toArray, List.set_cons_zero, List.set_cons_succ]
        refine wpAnyH_ready (rs := [35]) (by kernel_rfl) (by simp) ?_
        refine AllReadyH.cons rfl (fun K hK => ?_) AllReadyH.nil
        go_simp
        refine (gotNil_calls _).mono ?_; rintro e w1 ⟨rfl, rfl⟩
        go_simp
        refine hK.out _ _ hHeld (fun hHeld => ?_)
        clear hK K
        try simp only [Act.put, List.getElem_toArray, List.getElem_cons_zero, List.getElem_cons_succ, List.setIfInBounds_toArray, List.set_cons_zero, List.set_cons_succ]
        refine wpAnyH_take (i := 36) (v := ?_) rfl (by kernel_rfl) (by kernel_rfl) (by kernel_rfl) (fun _ _ _ h => h) (Or.inl ⟨by rfl, ?_⟩) (by assumption) ?_
        rotate_left 1
        · first | (intro w hSw; go_simp; done) | (intro w hSw; go_simp; with_reducible rfl)
        try simp only [Act.put, List.getElem_toArray, List.getElem_cons_zero, List.getElem_cons_succ, List.setIfInBounds_toArray, List.set_cons_zero, List.set_cons_succ]
        refine wpAnyH_ready (rs := [38]) (by kernel_rfl) (by simp) ?_
        refine AllReadyH.cons rfl (fun K hK => ?_) AllReadyH.nil
        go_simp
        refine (openNil_calls _).mono ?_; rintro e w1 ⟨rfl, rfl⟩
        go_simp
        refine hK.out _ _ hHeld (fun hHeld => ?_)
        clear hK K
        try simp only [Act.put, List.getElem_toArray, List.getElem_cons_zero, List.getElem_cons_succ, List.setIfInBounds_toArray, List.set_cons_zero, List.set_cons_succ]
        refine wpAnyH_take (i := 39) (v := ?_) rfl (by kernel_rfl) (by kernel_rfl) (by kernel_rfl) (fun _ _ _ h => h) (Or.inl ⟨by rfl, ?_⟩) (by assumption) ?_
        rotate_left 1
        · first | (intro w hSw; go_simp; done) | (intro w hSw; go_simp; with_reducible rfl)
        try simp only [Act.put, List.getElem_toArray, List.getElem_cons_zero, List.getElem_cons_succ, List.setIfInBounds_toArray, List.set_cons_zero, List.set_cons_succ]
        refine wpAnyH_take (i := 40) (v := ?_) rfl (by kernel_rfl) (by kernel_rfl) (by kernel_rfl) (fun _ _ _ h => h) (Or.inl ⟨by rfl, ?_⟩) (by assumption) ?_
        rotate_left 1
        · first | (intro w hSw; go_simp; done) | (intro w hSw; go_simp; with_reducible rfl)
        try simp only [Act.put, List.getElem_toArray, List.getElem_cons_zero, List.getElem_cons_succ, List.setIfInBounds_toArray, List.set_cons_zero, List.set_cons_succ]
        refine wpAnyH_take (i := 41) (v := ?_) rfl (by kernel_rfl) (by kernel_rfl) (by kernel_rfl) (fun _ _ _ h => h) (Or.inl ⟨by rfl, ?_⟩) (by assumption) ?_
        rotate_left 1
        · first | (intro w hSw; go_simp; done) | (intro w hSw; go_simp; with_reducible rfl)
        try simp only [Act.put, List.getElem_toArray, List.getElem_cons_zero, List.getElem_cons_succ, List.setIfInBounds_toArray, List.set_cons_zero, List.set_cons_succ]
        refine wpAnyH_take (i := 42) (v := ?_) rfl (by kernel_rfl) (by kernel_rfl) (by kernel_rfl) (fun _ _ _ h => h) (Or.inl ⟨by rfl, ?_⟩) (by assumption) ?_
        rotate_left 1
        · first | (intro w hSw; go_simp; done) | (intro w hSw; go_simp; with_reducible rfl)
        try simp only [Act.put, List.getElem_toArray, List.getElem_cons_zero, List.getElem_cons_succ, List.setIfInBounds_toArray, List.set_cons_zero, List.set_cons_succ]
        refine wpAnyH_done (by kernel_rfl) ?_ _

        refine NoPanic.normal ?_
        all_goals (go_wp2; go_ret; exact ⟨rfl, below_step HB.out hHeld⟩)
    · have hgt : (N7.got : Int) = n7 := by have := HNG.out; omega
      have n0 : (0 : Int) ≤ n7 := by omega
      have n3 : (n7 : Int) ≤ 3 := by omega
      have n3c : decide ((n7 : Int) > 3) = false := decide_eq_false (by omega)
      clear hn3
      go_upto_region 15 with (go_at_call 15; refine (linkGot_calls _ pa K N7 pa HZ7.out).mono ?_; rw [hgt]; rintro e w9 ⟨rfl, hd⟩; have HB9 := Aside0.mk (show Below w.heap.size w w9 from by obtain ⟨⟨n, rfl⟩⟩ := hd; exact pw_below_drewN HB7.out _); clear hd)
      clear hgt HZ7 HNG
      go_cut [13] (fun s13 wx => ∃ g, s13 = .pointer (some ⟨g, 0, none⟩) ∧ Aside0 (wx.heap[g]? = some (.cells #[.bool true, .slice none 0 0, .int .i64 19] 34 (0, 0))) ∧ Aside0 (Below w.heap.size w wx))
      case first =>
        go_wp2_with (go_at_call 9; refine (refN_calls _ 19).mono ?_; rintro e w12 ⟨rfl, rfl⟩)
        go_meet
        case rel => exact ⟨_, rfl, ⟨heap_alloc_here _ _ _ (by simp)⟩, ⟨below_alloc (below_alloc HB9.out _) _⟩⟩
      case rest =>
        obtain ⟨g, rfl, HE, HB⟩ := hcut
        clear HB9
        go_wp2_with (first
          | (go_at_call 11; refine (packetNil_calls _).mono ?_; rintro e wd ⟨rfl, hd⟩; have HBD := Aside0.mk (show Below wc.heap.size wc wd from by obtain ⟨⟨n, rfl⟩⟩ := hd; exact pw_below_drewN (Below.refl _ _) _); clear hd)
          | (go_at_call 12; refine (receiveNil_calls _ _ _).mono ?_; rintro e w1 ⟨rfl, hw⟩; rw [hw]; clear hw))
        refine wp_region_noPanic ?_
        refine wp_region_held_drew (S := fun W => Below wc.heap.size wc W) (by kernel_rfl) (HBD.out.drew) (fun hHeld => ?_)
        refine wpAnyH_take (i := 0) (v := ?_) rfl (by kernel_rfl) (by kernel_rfl) (by kernel_rfl) (fun _ _ _ h => h) (Or.inl ⟨by rfl, ?_⟩) (by assumption) ?_
        rotate_left 1
        · first | (intro w hSw; go_simp; done) | (intro w hSw; go_simp; with_reducible rfl)
        try simp only [Act.put, List.getElem_toArray, List.getElem_cons_zero, List.getElem_cons_succ, List.setIfInBounds_toArray, List.set_cons_zero, List.set_cons_succ]
        refine wpAnyH_take (i := 1) (v := ?_) rfl (by kernel_rfl) (by kernel_rfl) (by kernel_rfl) (fun _ _ _ h => h) (Or.inl ⟨by rfl, ?_⟩) (by assumption) ?_
        rotate_left 1
        · first | (intro w hSw; go_simp; done) | (intro w hSw; go_simp; with_reducible rfl)
        try simp only [Act.put, List.getElem_toArray, List.getElem_cons_zero, List.getElem_cons_succ, List.setIfInBounds_toArray, List.set_cons_zero, List.set_cons_succ]
        refine wpAnyH_take (i := 3) (v := ?_) rfl (by kernel_rfl) (by kernel_rfl) (by kernel_rfl) (fun _ _ _ h => h) (Or.inl ⟨by rfl, ?_⟩) (by assumption) ?_
        rotate_left 1
        · first | (intro w hSw; obtain ⟨⟨q0, q1, q2⟩, _⟩ := E_cells (x := (0, 0)) ((hSw.block _ (blk_lt HE.out)).trans HE.out); go_simp; done) | (intro w hSw; obtain ⟨⟨q0, q1, q2⟩, _⟩ := E_cells (x := (0, 0)) ((hSw.block _ (blk_lt HE.out)).trans HE.out); go_simp; with_reducible rfl)
        try simp only [Act.put, List.getElem_toArray, List.getElem_cons_zero, List.getElem_cons_succ, List.setIfInBounds_toArray, List.set_cons_zero, List.set_cons_succ]
        refine wpAnyH_ready (rs := [2]) (by kernel_rfl) (by simp) ?_
        refine AllReadyH.cons rfl (fun K hK => ?_) AllReadyH.nil
        go_simp
        refine (pushNil_calls _ _).mono ?_; rintro e w1 ⟨rfl, rfl⟩
        go_simp
        refine hK.out _ _ hHeld (fun hHeld => ?_)
        clear hK K
        try simp only [Act.put, List.getElem_toArray, List.getElem_cons_zero, List.getElem_cons_succ, List.setIfInBounds_toArray, List.set_cons_zero, List.set_cons_succ]
        refine wpAnyH_ready (rs := [4]) (by kernel_rfl) (by simp) ?_
        refine AllReadyH.cons rfl (fun K hK => ?_) AllReadyH.nil
        go_simp
        refine (fails_calls _ 0 (.num 19) _ _ (HG.out.below (below_step HB.out hHeld)) rfl rfl).mono ?_; rintro e w1 ⟨rfl, hb⟩; have hH1 := below_step hHeld hb; clear hb
        go_simp
        refine hK.out _ _ hH1 (fun hHeld => ?_)
        clear hK K
        try simp only [Act.put, List.getElem_toArray, List.getElem_cons_zero, List.getElem_cons_succ, List.setIfInBounds_toArray, List.set_cons_zero, List.set_cons_succ]
        refine wpAnyH_take (i := 5) (v := ?_) rfl (by kernel_rfl) (by kernel_rfl) (by kernel_rfl) (fun _ _ _ h => h) (Or.inl ⟨by rfl, ?_⟩) (by assumption) ?_
        rotate_left 1
        · first | (intro w hSw; go_simp; done) | (intro w hSw; go_simp; with_reducible rfl)
        try simp only [Act.put, List.getElem_toArray, List.getElem_cons_zero, List.getElem_cons_succ, List.setIfInBounds_toArray, List.set_cons_zero, List.set_cons_succ]
        refine wpAnyH_take (i := 6) (v := ?_) rfl (by kernel_rfl) (by kernel_rfl) (by kernel_rfl) (fun _ _ _ h => h) (Or.inl ⟨by rfl, ?_⟩) (by assumption) ?_
        rotate_left 1
        · first | (intro w hSw; go_simp; done) | (intro w hSw; go_simp; with_reducible rfl)
        try simp only [Act.put, List.getElem_toArray, List.getElem_cons_zero, List.getElem_cons_succ, List.setIfInBounds_toArray, List.set_cons_zero, List.set_cons_succ]
        refine wpAnyH_take (i := 7) (v := ?_) rfl (by kernel_rfl) (by kernel_rfl) (by kernel_rfl) (fun _ _ _ h => h) (Or.inl ⟨by rfl, ?_⟩) (by assumption) ?_
        rotate_left 1
        · first | (intro w hSw; obtain ⟨⟨q0, q1, q2⟩, _⟩ := E_cells (x := (0, 0)) ((hSw.block _ (blk_lt HE.out)).trans HE.out); go_simp; done) | (intro w hSw; obtain ⟨⟨q0, q1, q2⟩, _⟩ := E_cells (x := (0, 0)) ((hSw.block _ (blk_lt HE.out)).trans HE.out); go_simp; with_reducible rfl)
        try simp only [Act.put, List.getElem_toArray, List.getElem_cons_zero, List.getElem_cons_succ, List.setIfInBounds_toArray, List.set_cons_zero, List.set_cons_succ]
        refine wpAnyH_ready (rs := [8]) (by kernel_rfl) (by simp) ?_
        refine AllReadyH.cons rfl (fun K hK => ?_) AllReadyH.nil
        go_simp
        refine (fails_calls _ 0 (.num 19) _ _ (HG.out.below (below_step HB.out hHeld)) rfl rfl).mono ?_; rintro e w1 ⟨rfl, hb⟩; have hH1 := below_step hHeld hb; clear hb
        go_simp
        refine hK.out _ _ hH1 (fun hHeld => ?_)
        clear hK K
        try simp only [Act.put, List.getElem_toArray, List.getElem_cons_zero, List.getElem_cons_succ, List.setIfInBounds_toArray, List.set_cons_zero, List.set_cons_succ]
        refine wpAnyH_take (i := 9) (v := ?_) rfl (by kernel_rfl) (by kernel_rfl) (by kernel_rfl) (fun _ _ _ h => h) (Or.inl ⟨by rfl, ?_⟩) (by assumption) ?_
        rotate_left 1
        · first | (intro w hSw; go_simp; done) | (intro w hSw; go_simp; with_reducible rfl)
        try simp only [Act.put, List.getElem_toArray, List.getElem_cons_zero, List.getElem_cons_succ, List.setIfInBounds_toArray, List.set_cons_zero, List.set_cons_succ]
        refine wpAnyH_take (i := 10) (v := ?_) rfl (by kernel_rfl) (by kernel_rfl) (by kernel_rfl) (fun _ _ _ h => h) (Or.inl ⟨by rfl, ?_⟩) (by assumption) ?_
        rotate_left 1
        · first | (intro w hSw; go_simp; done) | (intro w hSw; go_simp; with_reducible rfl)
        try simp only [Act.put, List.getElem_toArray, List.getElem_cons_zero, List.getElem_cons_succ, List.setIfInBounds_toArray, List.set_cons_zero, List.set_cons_succ]
        refine wpAnyH_take (i := 11) (v := ?_) rfl (by kernel_rfl) (by kernel_rfl) (by kernel_rfl) (fun _ _ _ h => h) (Or.inl ⟨by rfl, ?_⟩) (by assumption) ?_
        rotate_left 1
        · first | (intro w hSw; go_simp; done) | (intro w hSw; go_simp; with_reducible rfl)
        try simp only [Act.put, List.getElem_toArray, List.getElem_cons_zero, List.getElem_cons_succ, List.setIfInBounds_toArray, List.set_cons_zero, List.set_cons_succ]
        refine wpAnyH_take (i := 13) (v := ?_) rfl (by kernel_rfl) (by kernel_rfl) (by kernel_rfl) (fun _ _ _ h => h) (Or.inl ⟨by rfl, ?_⟩) (by assumption) ?_
        rotate_left 1
        · first | (intro w hSw; obtain ⟨⟨q0, q1, q2⟩, _⟩ := E_cells (x := (0, 0)) ((hSw.block _ (blk_lt HE.out)).trans HE.out); go_simp; done) | (intro w hSw; obtain ⟨⟨q0, q1, q2⟩, _⟩ := E_cells (x := (0, 0)) ((hSw.block _ (blk_lt HE.out)).trans HE.out); go_simp; with_reducible rfl)
        try simp only [Act.put, List.getElem_toArray, List.getElem_cons_zero, List.getElem_cons_succ, List.setIfInBounds_toArray, List.set_cons_zero, List.set_cons_succ]
        refine wpAnyH_ready (rs := [12]) (by kernel_rfl) (by simp) ?_
        refine AllReadyH.cons rfl (fun K hK => ?_) AllReadyH.nil
        go_simp
        refine (commitNil_calls _).mono ?_; rintro e w1 ⟨rfl, rfl⟩
        go_simp
        refine hK.out _ _ hHeld (fun hHeld => ?_)
        clear hK K
        try simp only [Act.put, List.getElem_toArray, List.getElem_cons_zero, List.getElem_cons_succ, List.setIfInBounds_toArray, List.set_cons_zero, List.set_cons_succ]
        refine wpAnyH_ready (rs := [14]) (by kernel_rfl) (by simp) ?_
        refine AllReadyH.cons rfl (fun K hK => ?_) AllReadyH.nil
        go_simp
        refine (fails_calls _ 0 (.num 19) _ _ (HG.out.below (below_step HB.out hHeld)) rfl rfl).mono ?_; rintro e w1 ⟨rfl, hb⟩; have hH1 := below_step hHeld hb; clear hb
        go_simp
        refine hK.out _ _ hH1 (fun hHeld => ?_)
        clear hK K
        try simp only [Act.put, List.getElem_toArray, List.getElem_cons_zero, List.getElem_cons_succ, List.setIfInBounds_toArray, List.set_cons_zero, List.set_cons_succ]
        refine wpAnyH_take (i := 15) (v := ?_) rfl (by kernel_rfl) (by kernel_rfl) (by kernel_rfl) (fun _ _ _ h => h) (Or.inl ⟨by rfl, ?_⟩) (by assumption) ?_
        rotate_left 1
        · first | (intro w hSw; go_simp; done) | (intro w hSw; go_simp; with_reducible rfl)
        try simp only [Act.put, List.getElem_toArray, List.getElem_cons_zero, List.getElem_cons_succ, List.setIfInBounds_toArray, List.set_cons_zero, List.set_cons_succ]
        refine wpAnyH_take (i := 16) (v := ?_) rfl (by kernel_rfl) (by kernel_rfl) (by kernel_rfl) (fun _ _ _ h => h) (Or.inl ⟨by rfl, ?_⟩) (by assumption) ?_
        rotate_left 1
        · first | (intro w hSw; go_simp; done) | (intro w hSw; go_simp; with_reducible rfl)
        try simp only [Act.put, List.getElem_toArray, List.getElem_cons_zero, List.getElem_cons_succ, List.setIfInBounds_toArray, List.set_cons_zero, List.set_cons_succ]
        refine wpAnyH_take (i := 17) (v := ?_) rfl (by kernel_rfl) (by kernel_rfl) (by kernel_rfl) (fun _ _ _ h => h) (Or.inl ⟨by rfl, ?_⟩) (by assumption) ?_
        rotate_left 1
        · first | (intro w hSw; go_simp; done) | (intro w hSw; go_simp; with_reducible rfl)
        try simp only [Act.put, List.getElem_toArray, List.getElem_cons_zero, List.getElem_cons_succ, List.setIfInBounds_toArray, List.set_cons_zero, List.set_cons_succ]
        refine wpAnyH_take (i := 19) (v := ?_) rfl (by kernel_rfl) (by kernel_rfl) (by kernel_rfl) (fun _ _ _ h => h) (Or.inl ⟨by rfl, ?_⟩) (by assumption) ?_
        rotate_left 1
        · first | (intro w hSw; obtain ⟨⟨q0, q1, q2⟩, _⟩ := E_cells (x := (0, 0)) ((hSw.block _ (blk_lt HE.out)).trans HE.out); go_simp; done) | (intro w hSw; obtain ⟨⟨q0, q1, q2⟩, _⟩ := E_cells (x := (0, 0)) ((hSw.block _ (blk_lt HE.out)).trans HE.out); go_simp; with_reducible rfl)
        try simp only [Act.put, List.getElem_toArray, List.getElem_cons_zero, List.getElem_cons_succ, List.setIfInBounds_toArray, List.set_cons_zero, List.set_cons_succ]
        refine wpAnyH_ready (rs := [18]) (by kernel_rfl) (by simp) ?_
        refine AllReadyH.cons rfl (fun K hK => ?_) AllReadyH.nil
        go_simp
        refine (crashNil_calls _).mono ?_; rintro e w1 ⟨rfl, rfl⟩
        go_simp
        refine hK.out _ _ hHeld (fun hHeld => ?_)
        clear hK K
        try simp only [Act.put, List.getElem_toArray, List.getElem_cons_zero, List.getElem_cons_succ, List.setIfInBounds_toArray, List.set_cons_zero, List.set_cons_succ]
        refine wpAnyH_ready (rs := [20]) (by kernel_rfl) (by simp) ?_
        refine AllReadyH.cons rfl (fun K hK => ?_) AllReadyH.nil
        go_simp
        refine (fails_calls _ 0 (.num 19) _ _ (HG.out.below (below_step HB.out hHeld)) rfl rfl).mono ?_; rintro e w1 ⟨rfl, hb⟩; have hH1 := below_step hHeld hb; clear hb
        go_simp
        refine hK.out _ _ hH1 (fun hHeld => ?_)
        clear hK K
        try simp only [Act.put, List.getElem_toArray, List.getElem_cons_zero, List.getElem_cons_succ, List.setIfInBounds_toArray, List.set_cons_zero, List.set_cons_succ]
        refine wpAnyH_take (i := 21) (v := ?_) rfl (by kernel_rfl) (by kernel_rfl) (by kernel_rfl) (fun _ _ _ h => h) (Or.inl ⟨by rfl, ?_⟩) (by assumption) ?_
        rotate_left 1
        · first | (intro w hSw; go_simp; done) | (intro w hSw; go_simp; with_reducible rfl)
        try simp only [Act.put, List.getElem_toArray, List.getElem_cons_zero, List.getElem_cons_succ, List.setIfInBounds_toArray, List.set_cons_zero, List.set_cons_succ]
        refine wpAnyH_take (i := 22) (v := ?_) rfl (by kernel_rfl) (by kernel_rfl) (by kernel_rfl) (fun _ _ _ h => h) (Or.inl ⟨by rfl, ?_⟩) (by assumption) ?_
        rotate_left 1
        · first | (intro w hSw; go_simp; done) | (intro w hSw; go_simp; with_reducible rfl)
        try simp only [Act.put, List.getElem_toArray, List.getElem_cons_zero, List.getElem_cons_succ, List.setIfInBounds_toArray, List.set_cons_zero, List.set_cons_succ]
        refine wpAnyH_take (i := 23) (v := ?_) rfl (by kernel_rfl) (by kernel_rfl) (by kernel_rfl) (fun _ _ _ h => h) (Or.inl ⟨by rfl, ?_⟩) (by assumption) ?_
        rotate_left 1
        · first | (intro w hSw; go_simp; done) | (intro w hSw; go_simp; with_reducible rfl)
        try simp only [Act.put, List.getElem_toArray, List.getElem_cons_zero, List.getElem_cons_succ, List.setIfInBounds_toArray, List.set_cons_zero, List.set_cons_succ]
        refine wpAnyH_take (i := 24) (v := ?_) rfl (by kernel_rfl) (by kernel_rfl) (by kernel_rfl) (fun _ _ _ h => h) (Or.inl ⟨by rfl, ?_⟩) (by assumption) ?_
        rotate_left 1
        · first | (intro w hSw; go_simp; done) | (intro w hSw; go_simp; with_reducible rfl)
        try simp only [Act.put, List.getElem_toArray, List.getElem_cons_zero, List.getElem_cons_succ, List.setIfInBounds_toArray, List.set_cons_zero, List.set_cons_succ]
        refine wpAnyH_take (i := 25) (v := ?_) rfl (by kernel_rfl) (by kernel_rfl) (by kernel_rfl) (fun _ _ _ h => h) (Or.inl ⟨by rfl, ?_⟩) (by assumption) ?_
        rotate_left 1
        · first | (intro w hSw; go_simp; done) | (intro w hSw; go_simp; with_reducible rfl)
        try simp only [Act.put, List.getElem_toArray, List.getElem_cons_zero, List.getElem_cons_succ, List.setIfInBounds_toArray, List.set_cons_zero, List.set_cons_succ]
        refine wpAnyH_take (i := 26) (v := ?_) rfl (by kernel_rfl) (by kernel_rfl) (by kernel_rfl) (fun _ _ _ h => h) (Or.inl ⟨by rfl, ?_⟩) (by assumption) ?_
        rotate_left 1
        · first | (intro w hSw; go_simp; done) | (intro w hSw; go_simp; with_reducible rfl)
        try simp only [Act.put, List.getElem_toArray, List.getElem_cons_zero, List.getElem_cons_succ, List.setIfInBounds_toArray, List.set_cons_zero, List.set_cons_succ]
        refine wpAnyH_take (i := 27) (v := ?_) rfl (by kernel_rfl) (by kernel_rfl) (by kernel_rfl) (fun _ _ _ h => h) (Or.inl ⟨by rfl, ?_⟩) (by assumption) ?_
        rotate_left 1
        · first | (intro w hSw; go_simp; done) | (intro w hSw; go_simp; with_reducible rfl)
        try simp only [Act.put, List.getElem_toArray, List.getElem_cons_zero, List.getElem_cons_succ, List.setIfInBounds_toArray, List.set_cons_zero, List.set_cons_succ]
        refine wpAnyH_take (i := 28) (v := ?_) rfl (by kernel_rfl) (by kernel_rfl) (by kernel_rfl) (fun _ _ _ h => h) (Or.inl ⟨by rfl, ?_⟩) (by assumption) ?_
        rotate_left 1
        · first | (intro w hSw; go_simp; done) | (intro w hSw; go_simp; with_reducible rfl)
        try simp only [Act.put, List.getElem_toArray, List.getElem_cons_zero, List.getElem_cons_succ, List.setIfInBounds_toArray, List.set_cons_zero, List.set_cons_succ]
        refine wpAnyH_take (i := 29) (v := ?_) rfl (by kernel_rfl) (by kernel_rfl) (by kernel_rfl) (fun _ _ _ h => h) (Or.inl ⟨by rfl, ?_⟩) (by assumption) ?_
        rotate_left 1
        · first | (intro w hSw; go_simp; done) | (intro w hSw; go_simp; with_reducible rfl)
        try simp only [Act.put, List.getElem_toArray, List.getElem_cons_zero, List.getElem_cons_succ, List.setIfInBounds_toArray, List.set_cons_zero, List.set_cons_succ]
        refine wpAnyH_take (i := 30) (v := ?_) rfl (by kernel_rfl) (by kernel_rfl) (by kernel_rfl) (fun _ _ _ h => h) (Or.inl ⟨by rfl, ?_⟩) (by assumption) ?_
        rotate_left 1
        · first | (intro w hSw; go_simp; done) | (intro w hSw; go_simp; with_reducible rfl)
        try simp only [Act.put, List.getElem_toArray, List.getElem_cons_zero, List.getElem_cons_succ, List.setIfInBounds_toArray, List.set_cons_zero, List.set_cons_succ]
        refine wpAnyH_take (i := 31) (v := ?_) rfl (by kernel_rfl) (by kernel_rfl) (by kernel_rfl) (fun _ _ _ h => h) (Or.inl ⟨by rfl, ?_⟩) (by assumption) ?_
        rotate_left 1
        · first | (intro w hSw; go_simp; done) | (intro w hSw; go_simp; with_reducible rfl)
        try simp only [Act.put, List.getElem_toArray, List.getElem_cons_zero, List.getElem_cons_succ, List.setIfInBounds_toArray, List.set_cons_zero, List.set_cons_succ]
        refine wpAnyH_take (i := 32) (v := ?_) rfl (by kernel_rfl) (by kernel_rfl) (by kernel_rfl) (fun _ _ _ h => h) (Or.inl ⟨by rfl, ?_⟩) (by assumption) ?_
        rotate_left 1
        · first | (intro w hSw; go_simp; done) | (intro w hSw; go_simp; with_reducible rfl)
        try simp only [Act.put, List.getElem_toArray, List.getElem_cons_zero, List.getElem_cons_succ, List.setIfInBounds_toArray, List.set_cons_zero, List.set_cons_succ]
        refine wpAnyH_take (i := 34) (v := ?_) rfl (by kernel_rfl) (by kernel_rfl) (by kernel_rfl) (fun _ _ _ h => h) (Or.inl ⟨by rfl, ?_⟩) (by assumption) ?_
        rotate_left 1
        · first | (intro w hSw; go_simp; done) | (intro w hSw; go_simp; with_reducible rfl)
        try simp only [Act.put, List.getElem_toArray, List.getElem_cons_zero, List.getElem_cons_succ, List.setIfInBounds_toArray, List.set_cons_zero, List.set_cons_succ]
        refine wpAnyH_take (i := 37) (v := ?_) rfl (by kernel_rfl) (by kernel_rfl) (by kernel_rfl) (fun _ _ _ h => h) (Or.inl ⟨by rfl, ?_⟩) (by assumption) ?_
        rotate_left 1
        · first | (intro w hSw; go_simp; done) | (intro w hSw; go_simp; with_reducible rfl)
        try simp only [Act.put, List.getElem_toArray, List.getElem_cons_zero, List.getElem_cons_succ, List.setIfInBounds_toArray, List.set_cons_zero, List.set_cons_succ]
        refine wpAnyH_ready (rs := [33]) (by kernel_rfl) (by simp) ?_
        refine AllReadyH.cons rfl (fun K hK => ?_) AllReadyH.nil
        go_simp
        refine (sentNil_calls _).mono ?_; rintro e w1 ⟨rfl, rfl⟩
        go_simp
        refine hK.out _ _ hHeld (fun hHeld => ?_)
        clear hK K
        try simp only [Act.put, List.getElem_toArray, List.getElem_cons_zero, List.getElem_cons_succ, List.setIfInBounds_toArray, List.set_cons_zero, List.set_cons_succ]
        refine wpAnyH_ready (rs := [35]) (by kernel_rfl) (by simp) ?_
        refine AllReadyH.cons rfl (fun K hK => ?_) AllReadyH.nil
        go_simp
        refine (gotNil_calls _).mono ?_; rintro e w1 ⟨rfl, rfl⟩
        go_simp
        refine hK.out _ _ hHeld (fun hHeld => ?_)
        clear hK K
        try simp only [Act.put, List.getElem_toArray, List.getElem_cons_zero, List.getElem_cons_succ, List.setIfInBounds_toArray, List.set_cons_zero, List.set_cons_succ]
        refine wpAnyH_take (i := 36) (v := ?_) rfl (by kernel_rfl) (by kernel_rfl) (by kernel_rfl) (fun _ _ _ h => h) (Or.inl ⟨by rfl, ?_⟩) (by assumption) ?_
        rotate_left 1
        · first | (intro w hSw; go_simp; done) | (intro w hSw; go_simp; with_reducible rfl)
        try simp only [Act.put, List.getElem_toArray, List.getElem_cons_zero, List.getElem_cons_succ, List.setIfInBounds_toArray, List.set_cons_zero, List.set_cons_succ]
        refine wpAnyH_ready (rs := [38]) (by kernel_rfl) (by simp) ?_
        refine AllReadyH.cons rfl (fun K hK => ?_) AllReadyH.nil
        go_simp
        refine (openNil_calls _).mono ?_; rintro e w1 ⟨rfl, rfl⟩
        go_simp
        refine hK.out _ _ hHeld (fun hHeld => ?_)
        clear hK K
        try simp only [Act.put, List.getElem_toArray, List.getElem_cons_zero, List.getElem_cons_succ, List.setIfInBounds_toArray, List.set_cons_zero, List.set_cons_succ]
        refine wpAnyH_take (i := 39) (v := ?_) rfl (by kernel_rfl) (by kernel_rfl) (by kernel_rfl) (fun _ _ _ h => h) (Or.inl ⟨by rfl, ?_⟩) (by assumption) ?_
        rotate_left 1
        · first | (intro w hSw; go_simp; done) | (intro w hSw; go_simp; with_reducible rfl)
        try simp only [Act.put, List.getElem_toArray, List.getElem_cons_zero, List.getElem_cons_succ, List.setIfInBounds_toArray, List.set_cons_zero, List.set_cons_succ]
        refine wpAnyH_take (i := 40) (v := ?_) rfl (by kernel_rfl) (by kernel_rfl) (by kernel_rfl) (fun _ _ _ h => h) (Or.inl ⟨by rfl, ?_⟩) (by assumption) ?_
        rotate_left 1
        · first | (intro w hSw; go_simp; done) | (intro w hSw; go_simp; with_reducible rfl)
        try simp only [Act.put, List.getElem_toArray, List.getElem_cons_zero, List.getElem_cons_succ, List.setIfInBounds_toArray, List.set_cons_zero, List.set_cons_succ]
        refine wpAnyH_take (i := 41) (v := ?_) rfl (by kernel_rfl) (by kernel_rfl) (by kernel_rfl) (fun _ _ _ h => h) (Or.inl ⟨by rfl, ?_⟩) (by assumption) ?_
        rotate_left 1
        · first | (intro w hSw; go_simp; done) | (intro w hSw; go_simp; with_reducible rfl)
        try simp only [Act.put, List.getElem_toArray, List.getElem_cons_zero, List.getElem_cons_succ, List.setIfInBounds_toArray, List.set_cons_zero, List.set_cons_succ]
        refine wpAnyH_take (i := 42) (v := ?_) rfl (by kernel_rfl) (by kernel_rfl) (by kernel_rfl) (fun _ _ _ h => h) (Or.inl ⟨by rfl, ?_⟩) (by assumption) ?_
        rotate_left 1
        · first | (intro w hSw; go_simp; done) | (intro w hSw; go_simp; with_reducible rfl)
        try simp only [Act.put, List.getElem_toArray, List.getElem_cons_zero, List.getElem_cons_succ, List.setIfInBounds_toArray, List.set_cons_zero, List.set_cons_succ]
        refine wpAnyH_done (by kernel_rfl) ?_ _

        refine NoPanic.normal ?_
        all_goals (go_wp2; go_ret; exact ⟨rfl, below_step HB.out hHeld⟩)
end Go.Proofs.YtcdhjkkdenhmcaaDoor
