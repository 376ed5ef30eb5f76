/- (*Wave).tell: whom a node tells now. -/
import Derived.Test.YtpnokpoikhpiiaaWvRep
import Derived.BigQuiet
import Derived.Deep.QuietTactic
import Derived.Deep.LoopGhost
import Derived.WalkSpells
import Derived.Lib.Hide
namespace Go.Proofs.Ytpnokpoikhpiiaa
open Go.RowKit Go.Maps Go.Proofs.YtpnokpoikhpiiaaW.PrintWords Go.Proofs.YtpnokpoikhpiiaaW.PrintLast Go.Proofs.YtpnokpoikhpiiaaW.PrintMore WvSim
set_option linter.unusedVariables false
set_option linter.unusedSimpArgs false

def tellP (nd : Nd) (n : Int) : Bool := nd.bg && (!decide (n ∈ nd.told) && ready nd.near nd.heard n)
def out (nd : Nd) (k : Nat) : List Int := (nd.near.take k).filter (tellP nd)
theorem out_all (nd : Nd) : out nd nd.near.length = tells nd.near nd.heard nd.told nd.bg := by
  unfold out tells
  rw [List.take_length]
  rfl
theorem out_yes {nd : Nd} {k : Nat} (h : k < nd.near.length) (hp : tellP nd (rd nd.near k) = true) : out nd (k + 1) = out nd k ++ [rd nd.near k] := by
  unfold out
  rw [take_rd _ _ h, List.filter_append, List.filter_cons, if_pos hp, List.filter_nil]
theorem out_no {nd : Nd} {k : Nat} (h : k < nd.near.length) (hp : tellP nd (rd nd.near k) = false) : out nd (k + 1) = out nd k := by
  unfold out
  rw [take_rd _ _ h, List.filter_append, List.filter_cons, if_neg (by simp [hp]), List.filter_nil, List.append_nil]
theorem rd_not_out {nd : Nd} (hF : Fine nd) {k : Nat} (h : k < nd.near.length) : rd nd.near k ∉ out nd k := by
  intro hc
  have hm := (List.mem_filter.1 hc).1
  have hn := hF.nn
  rw [← List.take_append_drop k nd.near, List.nodup_append] at hn
  refine hn.2.2 _ hm (rd nd.near k) ?_ rfl
  have e : rd nd.near k = nd.near[k] := by simp [rd, List.getD_eq_getElem?_getD, List.getElem?_eq_getElem h]
  rw [e]
  exact List.mem_drop_iff_getElem.2 ⟨0, by omega, by simp⟩
theorem out_len (nd : Nd) (k : Nat) : (out nd k).length ≤ nd.near.length := by
  unfold out
  refine Nat.le_trans (List.length_filter_le _ _) ?_
  simp; omega

def TellPost (w : World) (lo hi p : Nat) (nd : Nd) (e : Ending) (w' : World) : Prop :=
  ∃ v, e = .returned v ∧ (Kd.int .i64).R 3 w' w.heap.size (fun _ => True) v (tells nd.near nd.heard nd.told nd.bg) ∧
    IsWave w' lo hi { nd with told := nd.told ++ tells nd.near nd.heard nd.told nd.bg } p ∧ Below lo w w' ∧ Kept w w' (In lo hi)

/-- What holds when tell is called. -/
structure Tell0 (w : World) (lo hi p bh bt : Nat) (A : Option Addr) (c : Nat) (nd : Nd) : Prop where
  h1 : w.heap[p]? = some (.cells #[.slice A nd.near.length c, .map (some bh), .map (some bt), .bool nd.bg] 60 (0, 0))
  h2 : (Kd.int .i64).R 3 w lo (In lo hi) (.slice A nd.near.length c) nd.near
  h3 : Keys w bh nd.heard
  h4 : Keys w bt nd.told
  h5 : bh ≠ bt
  h6 : In lo hi p
  h7 : In lo hi bh
  h8 : In lo hi bt
/-- In the midst of it. -/
structure TellW (w wr : World) (lo bt : Nat) (nd : Nd) (k : Nat) : Prop where
  h4 : Keys wr bt (nd.told ++ out nd k)
  same : ∀ i, i < w.heap.size → i ≠ bt → wr.heap[i]? = w.heap[i]?
  below : Below lo w wr
theorem TellW.drewN {w wr : World} {lo bt : Nat} {nd : Nd} {k : Nat} (h : TellW w wr lo bt nd k) (m : Nat) : TellW w (wr.drewN m) lo bt nd k :=
  ⟨h.h4.drewN m, h.same, pw_below_drewN h.below m⟩
section
variable {w wr : World} {lo hi p bh bt : Nat} {A : Option Addr} {c : Nat} {nd : Nd} {k : Nat}
theorem Tell0.ne (z : Tell0 w lo hi p bh bt A c nd) : p ≠ bt := by
  rintro rfl
  obtain ⟨es, clock, ho⟩ := z.h4.obj
  rw [z.h1] at ho
  cases ho
theorem TellW.blk (h : TellW w wr lo bt nd k) (z : Tell0 w lo hi p bh bt A c nd) : wr.heap[p]? = some (.cells #[.slice A nd.near.length c, .map (some bh), .map (some bt), .bool nd.bg] 60 (0, 0)) :=
  (h.same p (blk_lt z.h1) z.ne).trans z.h1
theorem TellW.near (h : TellW w wr lo bt nd k) (z : Tell0 w lo hi p bh bt A c nd) : (Kd.int .i64).R 3 wr lo (In lo hi) (.slice A nd.near.length c) nd.near := by
  refine Kd.R_mono (Kd.R_move (Kd.R_bound z.h2) (fun i hi => ?_)) (fun _ hk => hk.1)
  obtain ⟨_, _, hlt, q, _, cells, hc⟩ := hi
  refine h.same i hlt (fun e => ?_)
  subst e
  obtain ⟨es, clock, ho⟩ := z.h4.obj
  rw [hc] at ho
  cases ho
theorem TellW.heard (h : TellW w wr lo bt nd k) (z : Tell0 w lo hi p bh bt A c nd) : Keys wr bh nd.heard := z.h3.move (h.same bh z.h3.lt z.h5)
theorem TellW.put {w2 w3 : World} {n : Int} (h : TellW w wr lo bt nd k) (z : Tell0 w lo hi p bh bt A c nd)
    (hg : wr.grownBy w2 (some bt)) (hk : Keys w2 bt (nd.told ++ out nd k ++ [n])) (he : out nd (k + 1) = out nd k ++ [n]) (hb : Below w.heap.size w2 w3) : TellW w w3 lo bt nd (k + 1) := by
  have hbt := z.h4.lt
  have hlo : lo ≤ w.heap.size := by have := z.h8.1; omega
  refine ⟨?_, fun i hi hne => ?_, ?_⟩
  · rw [he, ← List.append_assoc]
    exact hk.move (hb.block bt hbt)
  · exact ((hb.block i hi).trans (hg.block i (Nat.lt_of_lt_of_le hi h.below.size) (fun e => by injection e with e; exact hne e))).trans (h.same i hi hne)
  · exact (h.below.grown hg (Nat.le_trans hlo h.below.size) (fun i e => by injection e with e; subst e; exact z.h8.1)).trans (hb.mono hlo)
theorem TellW.ends (h : TellW w wr lo bt nd nd.near.length) (z : Tell0 w lo hi p bh bt A c nd) :
    IsWave wr lo hi { nd with told := nd.told ++ tells nd.near nd.heard nd.told nd.bg } p ∧ Below lo w wr ∧ Kept w wr (In lo hi) := by
  refine ⟨⟨A, c, bh, bt, h.blk z, h.near z, h.heard z, ?_, z.h5, z.h6, z.h7, z.h8⟩, h.below, h.below.size, fun i hi hn => h.same i hi (fun e => hn (e ▸ z.h8))⟩
  rw [← out_all]
  exact h.h4
end
theorem grown_undrawn {w w1 : World} {m : Nat} {row : Option Nat} (h : (w.drewN m).grownBy w1 row) : w.grownBy w1 row := ⟨h.os, h.tape, h.output, h.size, h.block⟩
theorem R_past {α : Type} {d : Kd α} {e : Nat} {w w1 : World} {base b : Nat} {v : Value} {xs : List α} (h : d.R e w base (fun _ => True) v xs) (hg : w.grownBy w1 (some b)) (hb : b < base) : d.R e w1 base (fun _ => True) v xs :=
  Kd.R_mono (Kd.R_grown (Kd.R_bound h) hg (fun k hk e => by injection e with e; have := hk.2.1; omega)) (fun _ _ => trivial)

set_option maxHeartbeats 4000000 in
set_option maxRecDepth 100000 in
theorem tell_calls (w : World) (lo hi p : Nat) (nd : Nd) (hF : Fine nd) (hW : IsWave w lo hi nd p) :
    Calls Try.prog 20 #[.pointer (some ⟨p, 0, none⟩)] w (TellPost w lo hi p nd) := by
  obtain ⟨A, c, bh, bt, h1, h2, h3, h4, h5, h6, h7, h8⟩ := hW
  have Z : Hid (Tell0 w lo hi p bh bt A c nd) := ⟨h1, h2, h3, h4, h5, h6, h7, h8⟩
  have H0 : Hid (TellW w w lo bt nd 0) := ⟨by simpa [out] using h4, fun _ _ _ => rfl, Below.refl _ _⟩
  have c0 := blk_cell h1 0
  simp at c0
  have H1 := Lib.hid hF
  have n8 : (nd.near.length : Int) ≤ 8 := by have := hF.near8; omega
  have m8 : (nd.heard.length : Int) ≤ 8 := by have := hF.heard8; omega
  clear h1 h2 h3 h4 h5 h6 h7 h8 hF
  go_enter Try.func20, Try.ntmps20
  go_wp2
  go_loopw [3, 12] (fun v3 v12 wr => ∃ k : Nat, k ≤ nd.near.length ∧ v12 = .int .i64 k ∧ Aside0 (TellW w wr lo bt nd k) ∧ Aside0 ((Kd.int .i64).R 3 wr w.heap.size (fun _ => True) v3 (out nd k))) (fun _ v _ => nd.near.length - (intOf v).toNat)
  case atStart => exact ⟨0, Nat.zero_le _, rfl, ⟨H0.out⟩, ⟨Kd.R_nil _ _ _ _ _⟩⟩
  case round =>
    clear H0 c0
    obtain ⟨k, hk, rfl, HW, HR⟩ := hrel
    by_cases hlt : k < nd.near.length
    · obtain ⟨n, hn⟩ : ∃ n, n = rd nd.near k := ⟨_, rfl⟩
      have c0 := blk_cell (HW.out.blk Z.out) 0
      have c1 := blk_cell (HW.out.blk Z.out) 1
      have c2 := blk_cell (HW.out.blk Z.out) 2
      have c3 := blk_cell (HW.out.blk Z.out) 3
      simp at c0 c1 c2 c3
      obtain ⟨_, _, hC⟩ := Kd.R_reads' (HW.out.near Z.out)
      obtain ⟨ad, rfl, hcell⟩ := Kd.at_int hC k (by omega) (by omega)
      rw [← hn] at hcell
      have hnm : n ∈ nd.near := by rw [hn]; exact rd_mem _ _ hlt
      have hnb := H1.out.nb n hnm
      have hwf : (Lit.int .i64 n).wf = true := WalkArith.wf_i64 (by omega)
      simp only [Int.toNat_natCast] at hcell
      obtain ⟨q, hq⟩ : ∃ q : Int, q = if n ∈ nd.heard then 1 else 0 := ⟨_, rfl⟩
      have q0 : 0 ≤ q := by rw [hq]; split <;> omega
      have q1 : q ≤ 1 := by rw [hq]; split <;> omega
      have l1 := fun m => ((HW.out.heard Z.out).drewN m).look hwf
      rw [← hq] at l1
      have l2 := fun m ty => ((HW.out.heard Z.out).drewN m).len ty
      have l3 := fun m => (HW.out.h4.drewN m).look hwf
      have HQ := Lib.hid hq
      have HN := Lib.hid hn
      have k0 : (0 : Int) ≤ k := by omega
      have k1 : (k : Int) < nd.near.length := by omega
      clear hq hn hC hwf hnm
      have hno : tellP nd n = false → TellW w wr lo bt nd (k + 1) ∧ out nd (k + 1) = out nd k := by
        intro hf
        have e : out nd (k + 1) = out nd k := out_no hlt (by rw [← HN.out]; exact hf)
        exact ⟨⟨by rw [e]; exact HW.out.h4, HW.out.same, HW.out.below⟩, e⟩
      have hready : ready nd.near nd.heard n = ((nd.heard.length : Int) - q == (nd.near.length : Int) - 1) := by
        unfold ready
        rw [HQ.out, Bool.eq_iff_iff, decide_eq_true_iff, beq_iff_eq]
      by_cases hb : nd.bg = true
      · rw [hb] at c3
        by_cases ht : n ∈ nd.told
        · have hP : tellP nd n = false := by simp [tellP, ht]
          obtain ⟨HW1, e1⟩ := hno hP
          have HW2 := Lib.hid HW1
          have E1 := Lib.hid e1
          have l4 := fun m => l3 m
          simp only [List.mem_append, ht, true_or, if_true] at l4
          clear hno hb ht hP HW1 e1 l3 hready
          go_wp2
          go_quiet (fail)
          go_wp2
          go_roundw
          case rel => exact ⟨k + 1, by omega, by go_num, ⟨HW2.out.drewN _⟩, ⟨by rw [E1.out]; exact Kd.R_drewN HR.out _⟩⟩
          case measure => simp [intOf]; omega
        · have hno2 : n ∉ nd.told ++ out nd k := by
            rw [List.mem_append]
            rintro (h | h)
            · exact ht h
            · rw [HN.out] at h; exact rd_not_out H1.out hlt h
          have l4 := fun m => l3 m
          simp only [hno2, if_false] at l4
          by_cases hr : ready nd.near nd.heard n = true
          · have hP : tellP nd n = true := by simp [tellP, ht, hb, hr]
            have e1 : out nd (k + 1) = out nd k ++ [n] := by rw [HN.out] at hP ⊢; exact out_yes hlt hP
            rw [hready] at hr
            have E1 := Lib.hid e1
            have HNO := Lib.hid hno2
            have HWF := Lib.hid (WalkArith.wf_i64 (n := n) (by omega))
            clear hno hb ht hP e1 l3 hno2 hready
            have HL := Lib.hid (show (nd.told ++ out nd k).length ≤ 16 by have := H1.out.told8; have := H1.out.near8; have := out_len nd k; rw [List.length_append]; omega)
            have HL2 := Lib.hid (show (out nd k).length ≤ 8 by have := H1.out.near8; have := out_len nd k; omega)
            go_wp2
            go_quiet (fail)
            go_wp2_with (first
              | (at_mapUpdate; refine wpList_putKey _ rfl _ _ _ rfl bt (nd.told ++ out nd k) n rfl rfl rfl (HW.out.h4.drewN _) HWF.out HNO.out (by have := HL.out; unfold maxLen; omega) ?_; intro w2 hk2 hg2; have HK2 := Aside0.mk hk2; have HG2 := Aside0.mk hg2; have HS2 := Aside0.mk (Nat.le_trans HW.out.below.size hg2.size); have HR2 := Aside0.mk (R_past (Kd.R_drewN HR.out _) hg2 Z.out.h4.lt); clear hk2 hg2)
              | (at_builtin; refine Kd.R_append (Kd.int .i64) (w0 := w2) w.heap.size rfl _ _ _ 3 (.int .i64 0) 8 rfl Try.underlying22 info3 rfl (by decide) (by omega) u3 (out nd k) n [.int .i64 n] (fun _ => True) (fun _ => False) rfl rfl rfl (fun _ hk => hk.elim) (fun _ _ => trivial) HR2.out (Below.refl _ _) HS2.out (by have := HL2.out; omega) ?_; intro v3 w3 ho hb hg hat; have HO3 := Aside0.mk ho; have HB3 := Aside0.mk hb; clear ho hb hg hat))
            go_roundw
            case rel => exact ⟨k + 1, by omega, by go_num, ⟨HW.out.put Z.out (grown_undrawn HG2.out) HK2.out E1.out HB3.out⟩, ⟨by rw [E1.out]; exact HO3.out⟩⟩
            case measure => simp [intOf]; omega
          · have hP : tellP nd n = false := by simp [tellP, hr]
            obtain ⟨HW1, e1⟩ := hno hP
            have HW2 := Lib.hid HW1
            have E1 := Lib.hid e1
            rw [hready] at hr
            replace hr := Bool.eq_false_iff.mpr hr
            clear hno hb ht hP HW1 e1 l3 hno2 hready
            go_wp2
            go_quiet (fail)
            go_wp2
            go_roundw
            case rel => exact ⟨k + 1, by omega, by go_num, ⟨HW2.out.drewN _⟩, ⟨by rw [E1.out]; exact Kd.R_drewN HR.out _⟩⟩
            case measure => simp [intOf]; omega
      · replace hb := Bool.eq_false_iff.mpr hb
        rw [hb] at c3
        have hP : tellP nd n = false := by simp [tellP, hb]
        obtain ⟨HW1, e1⟩ := hno hP
        have HW2 := Lib.hid HW1
        have E1 := Lib.hid e1
        clear hno hb hP HW1 e1 l3 hready
        go_wp2
        go_quiet (fail)
        go_wp2
        go_roundw
        case rel => exact ⟨k + 1, by omega, by go_num, ⟨HW2.out.drewN _⟩, ⟨by rw [E1.out]; exact Kd.R_drewN HR.out _⟩⟩
        case measure => simp [intOf]; omega
    · have hk2 : k = nd.near.length := by omega
      have k1 : ¬ (k : Int) < nd.near.length := by omega
      have HK := Lib.hid hk2
      clear hk2 hlt
      go_wp2
      go_ret
      refine ⟨_, rfl, ?_, ?_⟩
      · have := HR.out; rw [HK.out, out_all] at this; exact this
      · have h := HW.out
        rw [HK.out] at h
        exact h.ends Z.out
end Go.Proofs.Ytpnokpoikhpiiaa
