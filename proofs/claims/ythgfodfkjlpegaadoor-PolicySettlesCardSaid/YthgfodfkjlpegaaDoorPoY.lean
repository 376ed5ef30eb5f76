/- Settle. -/
import Derived.Test.YthgfodfkjlpegaaDoorPoX
namespace Go.Proofs.YthgfodfkjlpegaaDoor
open Go.RowKit Go.Proofs.YthgfodfkjlpegaaDoorW.PrintWords Go.Proofs.YthgfodfkjlpegaaDoorW.PrintLast Go.Proofs.YthgfodfkjlpegaaDoorW.PrintMore
set_option linter.unusedVariables false
set_option linter.unusedSimpArgs false
def settleEr (nodes : List Int) (l : List Ld) (most : Int) : Er :=
  match chk nodes l with
  | .ok => if most < 0 ∨ 10000 < most then .num 1 else .ok
  | e => e
theorem settleEr_bad {nodes : List Int} {l : List Ld} {most : Int} (h : chk nodes l ≠ .ok) : settleEr nodes l most = chk nodes l := by
  unfold settleEr
  cases he : chk nodes l with
  | ok => exact absurd he h
  | num c => rfl
  | at_ a b c => rfl
theorem settleEr_num {nodes : List Int} {l : List Ld} {most : Int} (h : chk nodes l = .ok) (hm : most < 0 ∨ 10000 < most) : settleEr nodes l most = .num 1 := by simp [settleEr, h, hm]
theorem settleEr_ok {nodes : List Int} {l : List Ld} {most : Int} (h : chk nodes l = .ok) (hm : ¬ (most < 0 ∨ 10000 < most)) : settleEr nodes l most = .ok := by
  unfold settleEr
  rw [h]
  simp only [if_neg hm]
theorem settle_stop {nodes : List Int} {l : List Ld} (h : pickI nodes l < 0) : ∀ m, settle nodes m l = l
  | 0 => rfl
  | m + 1 => by simp [settle, h]
theorem settle_step {nodes : List Int} {l : List Ld} (h : ¬ pickI nodes l < 0) (m : Nat) : settle nodes (m + 1) l = settle nodes m (moved nodes l) := by simp [settle, h]
theorem own_block {W : World} {base e n : Nat} {A : Option Addr} {c : Nat} {l : List Ld} (h : kLd.R e W base (fun _ => True) (.slice A n c) l) (hl : 0 < l.length) : ∃ g, A = some ⟨g, 0, none⟩ ∧ base ≤ g := by
  obtain ⟨inner, ho⟩ := Kd.R_own h
  rcases ho.2 with ⟨_, h0⟩ | ⟨g, cap, _, he, hb, _⟩
  · omega
  · injection he with h1 _ _
    exact ⟨g, h1, hb⟩
/-- The node of element q, read and written. -/
theorem Ld_elem {W : World} {base e n g cap : Nat} {l : List Ld} (h : kLd.R e W base (fun _ => True) (.slice (some ⟨g, 0, none⟩) n cap) l) {q : Nat} (hq : q < n) :
    W.cell? ⟨g, q * 3 + 1, none⟩ = some (.int .i64 (ldAt l q).node) ∧ W.frozen? ⟨g, q * 3 + 1, none⟩ = false ∧
      ∀ tn, kLd.R e (W.setCell ⟨g, q * 3 + 1, none⟩ (.int .i64 tn)) base (fun _ => True) (.slice (some ⟨g, 0, none⟩) n cap) (l.set q { ldAt l q with node := tn }) := by
  obtain ⟨c, hc1, hc2, hc3, hc4⟩ := Kd.R_elem h zLd (q : Int) (by omega) (by omega)
  obtain rfl := kLd_open (kLd.K_of_M hc2)
  rw [Int.toNat_natCast] at hc3 hc4
  refine ⟨hc3 1 _ rfl, hc4 1, fun tn => ?_⟩
  have := (Kd.R_seg h (q : Int) (by omega) (by omega) hc1 (by rw [Int.toNat_natCast]; exact hc3) (j := 1) (seg := [.int .i64 tn]) (by show 1 + 1 ≤ 3; omega) (x' := { ldAt l q with node := tn }) (okp := fun _ => False) (kLd_mkM W base _ { ldAt l q with node := tn }) (fun _ hk => hk.elim)).1
  rw [Int.toNat_natCast] at this
  exact this
set_option maxRecDepth 100000 in
set_option maxHeartbeats 1000000 in
theorem settle_calls (w : World) (A B : Option Addr) (c d : Nat) (nodes : List Int) (l : List Ld) (most : Int) (hr : (Kd.int .i64).C w A nodes.length nodes) (hl : kLd.C w B l.length l) (hwf : ∀ x ∈ l, (Lit.int .i64 x.sub).wf = true) (hN : nodes.length ≤ 1000) :
    Calls Tryd.prog 14 #[.slice A nodes.length c, .slice B l.length d, .int .i64 most] w fun e w' => ∃ u v, e = .returned (.tuple #[u, v]) ∧ IsEr w' w.heap.size (settleEr nodes l most) v ∧
      (settleEr nodes l most = .ok → kLd.R 55 w' w.heap.size (fun _ => True) u (settle nodes most.toNat l)) ∧ (settleEr nodes l most ≠ .ok → u = .slice none 0 0) ∧ Below w.heap.size w w' := by
  have HR := Lib.hid hr
  have HL := Lib.hid hl
  have HWF := Lib.hid hwf
  have HM := Lib.hid hN
  clear hr hl hwf hN
  by_cases hc : chk nodes l = .ok
  · have HG := Lib.hid (chk_good.1 hc)
    have HC := Lib.hid hc
    clear hc
    by_cases e1 : most < 0
    · have e1b : decide (most < 0) = true := by simpa using e1
      have HE := Lib.hid (settleEr_num HC.out (Or.inl e1))
      clear e1
      go_enter Tryd.func14, Tryd.ntmps14
      go_wp2_with (go_at_call 17; refine (check_calls _ _ _ _ _ nodes l HR.out HL.out HWF.out).mono ?_; rintro e w1 ⟨v, rfl, hv, hb⟩; rw [HC.out] at hv; obtain rfl := hv; have HB := Aside0.mk hb; clear hb)
      go_ret2
      rw [HE.out]
      exact ⟨_, _, rfl, rfl, (fun h => nomatch h), fun _ => rfl, HB.out⟩
    · have e1b : decide (most < 0) = false := by simpa using e1
      by_cases e2 : most > 10000
      · have e2b : decide (most > 10000) = true := by simpa using e2
        have HE := Lib.hid (settleEr_num HC.out (Or.inr e2))
        clear e1 e2
        go_enter Tryd.func14, Tryd.ntmps14
        go_wp2_with (go_at_call 17; refine (check_calls _ _ _ _ _ nodes l HR.out HL.out HWF.out).mono ?_; rintro e w1 ⟨v, rfl, hv, hb⟩; rw [HC.out] at hv; obtain rfl := hv; have HB := Aside0.mk hb; clear hb)
        go_ret2
        rw [HE.out]
        exact ⟨_, _, rfl, rfl, (fun h => nomatch h), fun _ => rfl, HB.out⟩
      · have e2b : decide (most > 10000) = false := by simpa using e2
        have HE := Lib.hid (settleEr_ok HC.out (show ¬ (most < 0 ∨ 10000 < most) by omega))
        obtain ⟨n, rfl⟩ : ∃ n : Nat, most = n := ⟨most.toNat, by omega⟩
        have hn : (n : Int) ≤ 10000 := by omega
        clear e1 e2
        go_enter Tryd.func14, Tryd.ntmps14
        go_wp2_with (first
          | (go_at_call 17; refine (check_calls _ _ _ _ _ nodes l HR.out HL.out HWF.out).mono ?_; rintro e w1 ⟨v, rfl, hv, hb⟩; rw [HC.out] at hv; obtain rfl := hv; have HB := Aside0.mk hb; clear hb)
          | (go_at_call 27; refine (cloneL_calls _ _ _ l (kLd.C_below HL.out HB.out) (by have := HG.out.fine.len; omega)).mono ?_; rintro e w2 ⟨v, rfl, hR, hb⟩; obtain ⟨A2, c2, rfl⟩ := Kd.R_slice hR; have HRR := Aside0.mk hR; have HB2 := Aside0.mk hb; clear hb hR))
        go_loopw [28] (fun v28 wr => ∃ (k : Nat) (lk : List Ld), v28 = .int .i64 k ∧ k ≤ n ∧ lk.length = l.length ∧ Aside0 (kLd.R 55 wr w1.heap.size (fun _ => True) (.slice A2 l.length c2) lk) ∧ Aside0 (Below w1.heap.size w1 wr) ∧ Hid (settle nodes n l = settle nodes (n - k) lk ∧ Good nodes lk)) (fun v _ => n - (intOf v).toNat)
        case atStart => exact ⟨0, l, rfl, Nat.zero_le _, rfl, HRR, HB2, rfl, HG.out⟩
        case round =>
          obtain ⟨k, lk, rfl, hk, hlk, HK, HBK, HS⟩ := hrel
          by_cases hlt : k < n
          · have hpk := pick2_calls wr A A2 c c2 nodes lk (Kd.C_below HR.out (below_step HB.out HBK.out)) (by have := (Kd.R_reads' HK.out).2.2; exact this) HM.out HS.out.2
            rw [hlk] at hpk
            have HPK := Lib.hid hpk
            have HLK := Lib.hid hlk
            have HLT := Lib.hid hlt
            have k1 : (k : Int) < n := by omega
            clear hpk hlk hlt
            by_cases hp : pickI nodes lk < 0
            · obtain ⟨q, hq⟩ : ∃ q, q = pickI nodes lk := ⟨_, rfl⟩
              have HQ := Lib.hid hq
              have HST := Lib.hid (settle_stop hp (n - k))
              rw [← hq] at hp
              clear hq
              go_wp2_with (go_at_call 18; refine HPK.out.mono ?_; rintro e w3 ⟨rfl, hb⟩; have HB3 := Aside0.mk hb; clear hb; rw [← HQ.out])
              go_ret2
              rw [HE.out]
              refine ⟨_, _, rfl, rfl, fun _ => ?_, fun h => absurd rfl h, below_step HB.out (below_step HBK.out HB3.out)⟩
              rw [Int.toNat_natCast, HS.out.1, HST.out]
              exact Kd.R_lower (Kd.R_below HK.out HB3.out) HB.out.size
            · obtain ⟨q, hq⟩ : ∃ q : Nat, pickI nodes lk = q := ⟨(pickI nodes lk).toNat, by omega⟩
              have hql : q < lk.length := by have := (pickI_bound nodes lk).2; omega
              have HQ := Lib.hid hq
              have HST := Lib.hid (settle_step hp (n - k - 1))
              have HGM := Lib.hid (HS.out.2.moved (by omega))
              have hp2 : ¬ (q : Int) < 0 := by omega
              have q0 : (0 : Int) ≤ q := by omega
              have q1 : (q : Int) < l.length := by have := HLK.out; omega
              have HQL := Lib.hid hql
              obtain ⟨g, rfl, hg⟩ := own_block HK.out (by omega)
              have HGG := Lib.hid hg
              obtain ⟨tn, hto⟩ : ∃ tn, tn = loN nodes lk := ⟨_, rfl⟩
              have HTO := Lib.hid hto
              clear hp hq hql hg hto
              go_wp2_with (go_at_call 18; refine HPK.out.mono ?_; rintro e w3 ⟨rfl, hb⟩; have HB3 := Aside0.mk hb; clear hb; rw [HQ.out, ← HTO.out]; have HK3 := Aside0.mk (Kd.R_below HK.out HB3.out); obtain ⟨hce1, hce2, hce3⟩ := Ld_elem HK3.out (show q < l.length by omega); have HPUT := Aside0.mk (hce3 tn); clear hce3)
              go_roundw
              case rel =>
                refine ⟨k + 1, moved nodes lk, by go_num, by have := HLT.out; omega, by rw [moved_len]; exact HLK.out, ⟨?_⟩, ⟨below_set (below_step HBK.out HB3.out) HGG.out⟩, ?_, HGM.out⟩
                · unfold moved
                  rw [HQ.out, ← HTO.out]
                  exact HPUT.out
                · rw [HS.out.1, show n - k = n - k - 1 + 1 by have := HLT.out; omega, HST.out, Nat.sub_sub]
              case measure => have := HLT.out; simp [intOf]; omega
          · have k1 : ¬ (k : Int) < n := by omega
            have hh : n - k = 0 := by omega
            have HH := Lib.hid hh
            clear hlt hh
            go_wp2
            go_ret2
            rw [HE.out]
            refine ⟨_, _, rfl, rfl, fun _ => ?_, fun h => absurd rfl h, below_step HB.out HBK.out⟩
            (try rw [Int.toNat_natCast])
            rw [HS.out.1, HH.out]
            exact Kd.R_lower HK.out HB.out.size
  · have HBAD := Lib.hid hc
    have HE := Lib.hid (settleEr_bad (most := most) hc)
    clear hc
    go_enter Tryd.func14, Tryd.ntmps14
    go_wp2_with (go_at_call 17; refine (check_calls _ _ _ _ _ nodes l HR.out HL.out HWF.out).mono ?_; rintro e w1 ⟨v, rfl, hv, hb⟩; have HV := Aside0.mk hv; obtain ⟨t, u, rfl⟩ := hv.bad HBAD.out; have HB := Aside0.mk hb; clear hb hv)
    go_ret2
    rw [HE.out]
    exact ⟨_, _, rfl, HV.out, fun h => absurd h HBAD.out, fun _ => rfl, HB.out⟩
end Go.Proofs.YthgfodfkjlpegaaDoor
