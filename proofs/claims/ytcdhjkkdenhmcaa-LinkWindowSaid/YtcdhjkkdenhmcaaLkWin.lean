/- link: LinkWindow. -/
import Derived.Test.YtcdhjkkdenhmcaaLkA
namespace Go.Proofs.Ytcdhjkkdenhmcaa
open Go.RowKit Go.Proofs.YtcdhjkkdenhmcaaW.PrintWords Go.Proofs.YtcdhjkkdenhmcaaW.PrintLast Go.Proofs.YtcdhjkkdenhmcaaW.PrintMore
attribute [local go_sem] max2_int min2_int max_two min_two
set_option linter.unusedVariables false
set_option linter.unusedSimpArgs false
def enAt (W n : Nat) (l : List (List UInt8)) (k : Nat) : En := ⟨W, l.take k, if n < k then n else 0, 0, 0, 0, false⟩
def enEnd (W n : Nat) (l : List (List UInt8)) : En := ⟨W, l, n, 0, 0, 0, false⟩
theorem enAt_fine {W n : Nat} {l : List (List UInt8)} {k : Nat} (h1 : 1 ≤ W) (h2 : W ≤ 64) (h3 : l.length ≤ 150) (h4 : k ≤ l.length) : EnFine (enAt W n l k) :=
  ⟨h1, h2, by simp only [enAt, List.length_take]; omega, by simp only [enAt, List.length_take]; split <;> omega, Nat.zero_le _, Nat.zero_le _, Nat.le_refl _⟩
theorem enEnd_fine {W n : Nat} {l : List (List UInt8)} (h1 : 1 ≤ W) (h2 : W ≤ 64) (h3 : l.length ≤ 150) (h4 : n ≤ l.length) : EnFine (enEnd W n l) :=
  ⟨h1, h2, by simp only [enEnd]; omega, h4, Nat.zero_le _, Nat.zero_le _, Nat.le_refl _⟩
theorem enAt_push {W n : Nat} {l : List (List UInt8)} {k : Nat} (hk : k < l.length) (hn : k ≠ n) : (enAt W n l k).push (gl l k) = enAt W n l (k + 1) := by
  unfold enAt En.push
  rw [List.take_succ_eq_append_getElem hk, gl_get l k hk]
  have : (if n < k then n else 0) = (if n < k + 1 then n else 0) := by split <;> split <;> omega
  simp only [this]
theorem enAt_commit {W n : Nat} {l : List (List UInt8)} (hk : n < l.length) : (enAt W n l n).commit.push (gl l n) = enAt W n l (n + 1) := by
  unfold enAt En.push En.commit
  rw [List.take_succ_eq_append_getElem hk, gl_get l n hk]
  simp only [List.length_take, Nat.lt_succ_self, if_true]
  congr 1
  omega
theorem enAt_last {W n : Nat} {l : List (List UInt8)} (hn : n < l.length) : enAt W n l l.length = enEnd W n l := by
  unfold enAt enEnd
  rw [List.take_length, if_pos hn]
theorem enAt_lastc {W n : Nat} {l : List (List UInt8)} (hn : n = l.length) : (enAt W n l l.length).commit = enEnd W n l := by
  subst hn
  unfold enAt enEnd En.commit
  rw [List.take_length]
theorem win_rcvd {W n : Nat} {l : List (List UInt8)} (h : l.length ≤ 150) : rcvd 0 0 1000 (wl (enEnd W n l)) = (l.take (min n W)).drop 0 := by
  have e : wl (enEnd W n l) = l.take (min n W) := by simp [wl, enEnd]
  rw [e, List.drop_zero]
  unfold rcvd frs
  have e2 : (1000 : Int).toNat = 1000 := rfl
  split
  · rw [Nat.sub_zero, List.drop_zero, e2, List.take_of_length_le (by rw [List.length_take]; omega)]
  · next h2 =>
    have h3 : (l.take (min n W)).length = 0 := by omega
    rw [List.eq_nil_of_length_eq_zero h3]; rfl
theorem cell_lt {w : World} {p : Addr} {v : Value} (h : w.cell? p = some v) : p.block < w.heap.size := by
  unfold World.cell? at h
  rcases Nat.lt_or_ge p.block w.heap.size with h1 | h1
  · exact h1
  · rw [Array.getElem?_eq_none h1] at h; cases h
set_option maxRecDepth 100000 in
set_option maxHeartbeats 2000000 in
theorem window_walk (w : World) (A0 : Option Addr) (c0 : Nat) (l : List (List UInt8)) (wi sf : Int) (hx : kBs.C w A0 l.length l) (hc : l.length ≤ c0) :
    Calls Try.prog 3 #[.int .i64 wi, .slice A0 l.length c0, .int .i64 sf] w fun e w' => e = .returned (.bool true) ∧ Below w.heap.size w w' := by
  have HX := Aside0.mk hx
  have HC := Lib.hid hc
  clear hx hc
  go_enter Try.func3, Try.ntmps3
  go_upto_region 3 with (go_at_call 6; refine (awake_calls w).mono ?_; rintro e wa ⟨rfl, hb⟩; have HBA := Aside0.mk hb; clear hb)
  by_cases g1 : (l.length : Int) > 150
  · have g1c : decide ((l.length : Int) > 150) = true := decide_eq_true g1
    go_wp2
    go_ret
    exact ⟨rfl, HBA.out⟩
  by_cases g2 : wi < 1
  · have g1c : decide ((l.length : Int) > 150) = false := decide_eq_false g1
    have g2c : decide (wi < 1) = true := decide_eq_true g2
    go_wp2
    go_ret
    exact ⟨rfl, HBA.out⟩
  by_cases g3 : wi > 64
  · have g1c : decide ((l.length : Int) > 150) = false := decide_eq_false g1
    have g2c : decide (wi < 1) = false := decide_eq_false g2
    have g3c : decide (wi > 64) = true := decide_eq_true g3
    go_wp2
    go_ret
    exact ⟨rfl, HBA.out⟩
  by_cases g4 : sf < 0
  · have g1c : decide ((l.length : Int) > 150) = false := decide_eq_false g1
    have g2c : decide (wi < 1) = false := decide_eq_false g2
    have g3c : decide (wi > 64) = false := decide_eq_false g3
    have g4c : decide (sf < 0) = true := decide_eq_true g4
    go_wp2
    go_ret
    exact ⟨rfl, HBA.out⟩
  have g1c : decide ((l.length : Int) > 150) = false := decide_eq_false g1
  have g2c : decide (wi < 1) = false := decide_eq_false g2
  have g3c : decide (wi > 64) = false := decide_eq_false g3
  have g4c : decide (sf < 0) = false := decide_eq_false g4
  obtain ⟨W, hW⟩ : ∃ W : Nat, wi = (W : Int) := ⟨wi.toNat, by omega⟩
  subst hW
  have HW1 := Lib.hid (show 1 ≤ W by omega)
  have HW2 := Lib.hid (show W ≤ 64 by omega)
  have HL := Lib.hid (show l.length ≤ 150 by omega)
  go_upto_region 7 with (first
    | (go_at_call 7; refine (linkNew_calls w1 W HW1.out HW2.out).mono ?_; rintro e w2 ⟨rfl, hE, hs, hb⟩; have HT2 := Aside0.mk (Two.start HE1.out HS1.out hE hb); have HB2 := Aside0.mk (HB1.out.trans (hb.mono (by have := HS1.out; have := HBA.out.size; omega))); clear hE hs hb)
    | (go_at_call 7; refine (linkNew_calls wa W HW1.out HW2.out).mono ?_; rintro e w1 ⟨rfl, hE, hs, hb⟩; have HE1 := Aside0.mk hE; have HS1 := Lib.hid hs; have HB1 := Aside0.mk (HBA.out.trans (hb.mono HBA.out.size)); clear hE hs hb))
  obtain ⟨n, hn⟩ : ∃ n, n = min sf.toNat l.length := ⟨_, rfl⟩
  have hmin : (if (l.length : Int) < sf then (l.length : Int) else sf) = (n : Int) := by rw [hn]; split <;> omega
  have HNL := Lib.hid (show n ≤ l.length by omega)
  have nl : (n : Int) ≤ l.length := by omega
  clear hn g1c g2c g3c g4c
  obtain ⟨pa, hpa⟩ : ∃ pa, pa = wa.heap.size := ⟨_, rfl⟩
  obtain ⟨pb, hpb⟩ : ∃ pb, pb = w1.heap.size := ⟨_, rfl⟩
  have HT0 := Aside0.mk (show ∃ K, Two w2 wa.heap.size K (fun k => k = pb) (enAt W n l 0) (En.new W) pa pb from ⟨_, by have h := HT2.out; rw [← hpa, ← hpb] at h; rw [← hpa]; exact h⟩)
  rw [← hpa, ← hpb]
  have HPA := Lib.hid (show w.heap.size ≤ pa by rw [hpa]; exact HBA.out.size)
  rw [← hpa] at HT0
  clear HT2 HE1 HS1 HB1 hpa hpb
  go_wp2
  go_loopw [51] (fun v wr => ∃ k : Nat, v = .int .i64 k ∧ Hid (k ≤ l.length ∧ ∀ j, j < k → (gl l j).length ≤ 50) ∧ Aside0 (∃ K, Two wr pa K (fun k => k = pb) (enAt W n l k) (En.new W) pa pb) ∧ Aside0 (Below w.heap.size w wr)) (fun v _ => l.length - (intOf v).toNat)
  case atStart => exact ⟨0, rfl, ⟨Nat.zero_le _, fun j hj => absurd hj (Nat.not_lt_zero _)⟩, HT0, HB2⟩
  case round =>
    obtain ⟨k, rfl, HK, HT, HB⟩ := hrel
    by_cases hlt : k < l.length
    · obtain ⟨ad, B0, d0, rfl, h1, hd0, h2⟩ := L_cell HX.out hlt
      have h1 := Below.keeps HB.out h1 (cell_lt h1)
      have k0 : (0 : Int) ≤ k := by omega
      have k1 : (k : Int) < l.length := by omega
      obtain ⟨q, hq⟩ : ∃ q, q = gl l k := ⟨_, rfl⟩
      rw [← hq] at h1 h2
      have H2 := Aside0.mk h2
      have HQ := Lib.hid hq
      have HLT := Lib.hid hlt
      clear h2 hq hlt hd0
      by_cases g50 : (q.length : Int) > 50
      · go_wp2
        go_ret
        exact ⟨rfl, HB.out⟩
      · have HG := Lib.hid (show q.length ≤ 50 by omega)
        obtain ⟨K, hT⟩ := HT.out
        have HT := Aside0.mk hT
        clear hT
        have HF := Lib.hid (enAt_fine (n := n) (l := l) (k := k) HW1.out HW2.out HL.out HK.out.1)
        have HKL := Lib.hid (show ∀ j, j < k + 1 → (gl l j).length ≤ 50 from fun j hj => by
          rcases Nat.lt_or_ge j k with h | h
          · exact HK.out.2 j h
          · have e : j = k := by omega
            rw [e, ← HQ.out]; exact HG.out)
        by_cases hkn : k = n
        · subst hkn
          have HEQ := Lib.hid (enAt_commit (W := W) HLT.out)
          go_wp2_with (first
            | (go_at_call 9; refine (linkPush_calls w5 pa K (enAt W k l k).commit pa _ _ q HF.out.commit HT5.out.a (Kd.C_below H2.out HBW5.out) (by have := HG.out; omega) (by have := HL.out; have := HLT.out; simp only [enAt, En.commit, List.length_take]; omega)).mono ?_; rintro e w6 ⟨rfl, K6, hz, hm⟩; have HT6 := Aside0.mk (HT5.out.left hz hm); have HB6 := Aside0.mk (HBW5.out.trans (hm.below.mono HPA.out)); clear hz hm)
            | (go_at_call 8; refine (linkCommit_calls wr pa K (enAt W k l k) pa HF.out HT.out.a).mono ?_; rintro e w5 ⟨rfl, hz, hm⟩; have HT5 := Aside0.mk (HT.out.left hz hm); have HBW5 := Aside0.mk (HB.out.trans (hm.below.mono HPA.out)); clear hz hm))
          go_roundw
          case rel => exact ⟨k + 1, by go_num, ⟨HLT.out, HKL.out⟩, ⟨K6, by have h := HT6.out; rw [HQ.out, HEQ.out] at h; exact h⟩, HB6⟩
          case measure => simp [intOf]; omega
        · have kn : ¬ (k : Int) = n := by omega
          have HEQ := Lib.hid (enAt_push (W := W) HLT.out hkn)
          go_wp2_with (go_at_call 9; refine (linkPush_calls wr pa K (enAt W n l k) pa _ _ q HF.out HT.out.a (Kd.C_below H2.out HB.out) (by have := HG.out; omega) (by have := HL.out; have := HLT.out; simp only [enAt, List.length_take]; omega)).mono ?_; rintro e w6 ⟨rfl, K6, hz, hm⟩; have HT6 := Aside0.mk (HT.out.left hz hm); have HB6 := Aside0.mk (HB.out.trans (hm.below.mono HPA.out)); clear hz hm)
          go_roundw
          case rel => exact ⟨k + 1, by go_num, ⟨HLT.out, HKL.out⟩, ⟨K6, by have h := HT6.out; rw [HQ.out, HEQ.out] at h; exact h⟩, HB6⟩
          case measure => simp [intOf]; omega
    · have hkl : k = l.length := by have := HK.out.1; omega
      subst hkl
      have k1 : ¬ (l.length : Int) < l.length := by omega
      obtain ⟨K, hT⟩ := HT.out
      have HT := Aside0.mk hT
      have HF := Lib.hid (enAt_fine (n := n) (l := l) HW1.out HW2.out HL.out (Nat.le_refl _))
      have HFE := Lib.hid (enEnd_fine (l := l) HW1.out HW2.out HL.out HNL.out)
      clear hT
      have n0 : (0 : Int) ≤ n := by omega
      have HN0 := Lib.hid (show (n : Int) = (n : Int) from rfl)
      by_cases hnl : n = l.length
      rotate_left 1
      · have kn : ¬ (n : Int) = l.length := by omega
        have HT9 := Aside0.mk (show ∃ K, Two wr pa K (fun k => k = pb) (enEnd W n l) (En.new W) pa pb from ⟨K, by have h := HT.out; rw [enAt_last (by have := HNL.out; omega)] at h; exact h⟩)
        have HB9 := HB
        go_upto_region 18 with (fail)
        obtain ⟨w9, hw9⟩ : ∃ w9, w9 = wr := ⟨_, rfl⟩
        rw [← hw9] at HT9 HB9 ⊢
        clear kn hnl hw9
        -- REST
        obtain ⟨K9, hT9⟩ := HT9.out
        have HT9 := Aside0.mk hT9
        clear hT9
        by_cases hz0 : n = 0
        · subst hz0
          have nz : ((0 : Nat) : Int) = 0 := rfl
          go_wp2_with (first
            | (go_at_call 11; refine (linkOpen_calls _ pa K9 (enEnd W 0 l) pa HFE.out HT10.out.a).mono ?_; rintro e w11 ⟨rfl, hd⟩; have HB11 := Aside0.mk (show Below w.heap.size w w11 from by obtain ⟨⟨n, rfl⟩⟩ := hd; exact pw_below_drewN HB10.out _); clear hd)
            | (go_at_call 10; refine (linkPacketNone_calls w9 pa K9 (enEnd W 0 l) pa HFE.out HT9.out.a (Nat.le_refl _) rfl).mono ?_; rintro e w10 ⟨rfl, hd⟩; have HT10 := Aside0.mk (Two.drawn HT9.out hd); have HB10 := Aside0.mk (show Below w.heap.size w w10 from by obtain ⟨⟨n, rfl⟩⟩ := hd; exact pw_below_drewN HB9.out _); clear hd))
          go_ret
          exact ⟨rfl, HB11.out⟩
        · have hz1 : ¬ (n : Int) = 0 := by omega
          have hz2 : ((n : Int) == 0) = false := by simp [hz0]
          have HN1 := Lib.hid (show 0 < n by omega)
          have HSL := Lib.hid (show ∀ m ∈ l, m.length ≤ 50 from fun m hm => by
            obtain ⟨j, hj, rfl⟩ := List.getElem_of_mem hm
            rw [← gl_get l j hj]
            exact HK.out.2 j hj)
          have hmin2 : (if (W : Int) < n then (W : Int) else n) = ((min n W : Nat) : Int) := by split <;> omega
          obtain ⟨y, hy⟩ : ∃ y, y = ((min n W : Nat) : Int) := ⟨_, rfl⟩
          obtain ⟨A5, hrun, hC5, _⟩ := L_head HX.out (hi := min n W) (by have := HNL.out; omega) HC.out y hy
          rw [← hy] at hmin2
          have hmin3 : (if W < n then (W : Int) else n) = y := by
            rw [← hmin2]
            by_cases h : W < n
            · rw [if_pos h, if_pos (by omega)]
            · rw [if_neg h, if_neg (by omega)]
          have HC5 := Aside0.mk hC5
          have HRC := Lib.hid (win_rcvd (W := W) (n := n) HL.out)
          have HY := Lib.hid hy
          clear hC5 hy hz0
          go_upto_region 22 with (first
            | (go_at_call 12; refine (linkReceive_calls _ pa _ (En.new W) pb 0 0 _ _ (wl (enEnd W n l)) (pkt (enEnd W n l)) 1000 (enFine_new W HW1.out HW2.out) HT10.out.b rfl (Kd.R_reads' HP10.out).2.2 (Kd.R_reads' HP10.out).2.1 (Nat.zero_le _) (by decide) (fun m hm => by have := HSL.out m (List.mem_of_mem_take (List.mem_of_mem_drop hm)); omega) (by have := HW2.out; simp only [wl, enEnd, List.length_drop, List.length_take]; omega)).mono ?_; rintro e w11 ⟨A11, c11, rfl, hq, hz, hm⟩; have HT11 := Aside0.mk (HT10.out.right hz hm); have HQ11 := Aside0.mk hq; have HB11 := Aside0.mk (HB10.out.trans (hm.below.mono HPA.out)); clear hz hm hq)
            | (go_at_call 10; refine (linkPacket_calls w9 pa K9 (enEnd W n l) pa HFE.out HT9.out.a (fun m hm => by have := HSL.out m hm; omega) (.inl HN1.out)).mono ?_; rintro e w10 ⟨A10, c10, rfl, hp, hz, hm⟩; have HP10 := Aside0.mk hp; have HT10 := Aside0.mk (HT9.out.left hz hm); have HB10 := Aside0.mk (HB9.out.trans (hm.below.mono HPA.out)); clear hp hz hm))
          have HRC2 : rcvd (En.new W).got 0 1000 (wl (enEnd W n l)) = (l.take (min n W)).drop 0 := HRC.out
          rw [HRC2] at HQ11 ⊢
          obtain ⟨ll, hll⟩ : ∃ ll, ll = (l.take (min n W)).drop 0 := ⟨_, rfl⟩
          rw [← hll] at HQ11 HC5 hrun ⊢
          clear hll HRC2
          have hop : ((enEnd W n l).sent.so : Int) - (enEnd W n l).sent.tld = n := by simp [enEnd, En.sent]
          go_wp2_with (first
            | (go_at_call 11; refine (linkOpen_calls _ pa K9 (enEnd W n l).sent pa HFE.out.sent HT12.out.a).mono ?_; rw [hop]; rintro e w13 ⟨rfl, hd⟩; have HB13 := Aside0.mk (show Below w.heap.size w w13 from by obtain ⟨⟨n, rfl⟩⟩ := hd; exact pw_below_drewN HB12.out _); clear hd)
            | (go_at_call 13; refine (lists_same w11 _ _ _ _ ll (Kd.Q_reads' HQ11.out).2.2 (Kd.C_below HC5.out HB11.out)).mono ?_; rintro e w12 ⟨rfl, hd⟩; have HT12 := Aside0.mk (Two.drawn HT11.out ⟨hd⟩); have HB12 := Aside0.mk (show Below w.heap.size w w12 from by obtain ⟨n, rfl⟩ := hd; exact pw_below_drewN HB11.out _); clear hd))
          go_ret
          exact ⟨rfl, HB13.out⟩
        -- TSER
      · have kn : ((n : Int) == l.length) = true := by simp [hnl]
        have kn2 : decide ((n : Int) = l.length) = true := by simp [hnl]
        have HNE := Lib.hid hnl
        clear hnl
        go_upto_region 18 with (go_at_call 8; refine (linkCommit_calls wr pa K (enAt W n l l.length) pa HF.out HT.out.a).mono ?_; rintro e w9 ⟨rfl, hz, hm⟩; have HT9 := Aside0.mk (show ∃ K, Two w9 pa K (fun k => k = pb) (enEnd W n l) (En.new W) pa pb from ⟨K, by have h := HT.out.left hz hm; rw [enAt_lastc HNE.out] at h; exact h⟩); have HB9 := Aside0.mk (HB.out.trans (hm.below.mono HPA.out)); clear hz hm)
        clear kn kn2 HNE
        -- REST
        obtain ⟨K9, hT9⟩ := HT9.out
        have HT9 := Aside0.mk hT9
        clear hT9
        by_cases hz0 : n = 0
        · subst hz0
          have nz : ((0 : Nat) : Int) = 0 := rfl
          go_wp2_with (first
            | (go_at_call 11; refine (linkOpen_calls _ pa K9 (enEnd W 0 l) pa HFE.out HT10.out.a).mono ?_; rintro e w11 ⟨rfl, hd⟩; have HB11 := Aside0.mk (show Below w.heap.size w w11 from by obtain ⟨⟨n, rfl⟩⟩ := hd; exact pw_below_drewN HB10.out _); clear hd)
            | (go_at_call 10; refine (linkPacketNone_calls w9 pa K9 (enEnd W 0 l) pa HFE.out HT9.out.a (Nat.le_refl _) rfl).mono ?_; rintro e w10 ⟨rfl, hd⟩; have HT10 := Aside0.mk (Two.drawn HT9.out hd); have HB10 := Aside0.mk (show Below w.heap.size w w10 from by obtain ⟨⟨n, rfl⟩⟩ := hd; exact pw_below_drewN HB9.out _); clear hd))
          go_ret
          exact ⟨rfl, HB11.out⟩
        · have hz1 : ¬ (n : Int) = 0 := by omega
          have hz2 : ((n : Int) == 0) = false := by simp [hz0]
          have HN1 := Lib.hid (show 0 < n by omega)
          have HSL := Lib.hid (show ∀ m ∈ l, m.length ≤ 50 from fun m hm => by
            obtain ⟨j, hj, rfl⟩ := List.getElem_of_mem hm
            rw [← gl_get l j hj]
            exact HK.out.2 j hj)
          have hmin2 : (if (W : Int) < n then (W : Int) else n) = ((min n W : Nat) : Int) := by split <;> omega
          obtain ⟨y, hy⟩ : ∃ y, y = ((min n W : Nat) : Int) := ⟨_, rfl⟩
          obtain ⟨A5, hrun, hC5, _⟩ := L_head HX.out (hi := min n W) (by have := HNL.out; omega) HC.out y hy
          rw [← hy] at hmin2
          have hmin3 : (if W < n then (W : Int) else n) = y := by
            rw [← hmin2]
            by_cases h : W < n
            · rw [if_pos h, if_pos (by omega)]
            · rw [if_neg h, if_neg (by omega)]
          have HC5 := Aside0.mk hC5
          have HRC := Lib.hid (win_rcvd (W := W) (n := n) HL.out)
          have HY := Lib.hid hy
          clear hC5 hy hz0
          go_upto_region 22 with (first
            | (go_at_call 12; refine (linkReceive_calls _ pa _ (En.new W) pb 0 0 _ _ (wl (enEnd W n l)) (pkt (enEnd W n l)) 1000 (enFine_new W HW1.out HW2.out) HT10.out.b rfl (Kd.R_reads' HP10.out).2.2 (Kd.R_reads' HP10.out).2.1 (Nat.zero_le _) (by decide) (fun m hm => by have := HSL.out m (List.mem_of_mem_take (List.mem_of_mem_drop hm)); omega) (by have := HW2.out; simp only [wl, enEnd, List.length_drop, List.length_take]; omega)).mono ?_; rintro e w11 ⟨A11, c11, rfl, hq, hz, hm⟩; have HT11 := Aside0.mk (HT10.out.right hz hm); have HQ11 := Aside0.mk hq; have HB11 := Aside0.mk (HB10.out.trans (hm.below.mono HPA.out)); clear hz hm hq)
            | (go_at_call 10; refine (linkPacket_calls w9 pa K9 (enEnd W n l) pa HFE.out HT9.out.a (fun m hm => by have := HSL.out m hm; omega) (.inl HN1.out)).mono ?_; rintro e w10 ⟨A10, c10, rfl, hp, hz, hm⟩; have HP10 := Aside0.mk hp; have HT10 := Aside0.mk (HT9.out.left hz hm); have HB10 := Aside0.mk (HB9.out.trans (hm.below.mono HPA.out)); clear hp hz hm))
          have HRC2 : rcvd (En.new W).got 0 1000 (wl (enEnd W n l)) = (l.take (min n W)).drop 0 := HRC.out
          rw [HRC2] at HQ11 ⊢
          obtain ⟨ll, hll⟩ : ∃ ll, ll = (l.take (min n W)).drop 0 := ⟨_, rfl⟩
          rw [← hll] at HQ11 HC5 hrun ⊢
          clear hll HRC2
          have hop : ((enEnd W n l).sent.so : Int) - (enEnd W n l).sent.tld = n := by simp [enEnd, En.sent]
          go_wp2_with (first
            | (go_at_call 11; refine (linkOpen_calls _ pa K9 (enEnd W n l).sent pa HFE.out.sent HT12.out.a).mono ?_; rw [hop]; rintro e w13 ⟨rfl, hd⟩; have HB13 := Aside0.mk (show Below w.heap.size w w13 from by obtain ⟨⟨n, rfl⟩⟩ := hd; exact pw_below_drewN HB12.out _); clear hd)
            | (go_at_call 13; refine (lists_same w11 _ _ _ _ ll (Kd.Q_reads' HQ11.out).2.2 (Kd.C_below HC5.out HB11.out)).mono ?_; rintro e w12 ⟨rfl, hd⟩; have HT12 := Aside0.mk (Two.drawn HT11.out ⟨hd⟩); have HB12 := Aside0.mk (show Below w.heap.size w w12 from by obtain ⟨n, rfl⟩ := hd; exact pw_below_drewN HB11.out _); clear hd))
          go_ret
          exact ⟨rfl, HB13.out⟩
        -- TSER
end Go.Proofs.Ytcdhjkkdenhmcaa
