/- How a desk lies in memory, and what its functions do. -/
import Derived.Test.YtadaoplmicghcaaGreatDoorM1
import Derived.Lib.SliceRun
import Derived.Deep.DeepCutAuto
import Derived.Test.YtadaoplmicghcaaGreatDoorWApart
import Derived.RegionTactic
import Derived.ChangeAlike
import Derived.BigQuiet
import Derived.Deep.QuietTactic
namespace Go.Proofs.YtadaoplmicghcaaGreatDoor.Cm
open Go.RowKit Go.Proofs.YtadaoplmicghcaaGreatDoorW.PrintWords Go.Proofs.YtadaoplmicghcaaGreatDoorW.PrintLast Go.Proofs.YtadaoplmicghcaaGreatDoorW.PrintMore
set_option linter.unusedVariables false
set_option linter.unusedSimpArgs false

theorem zeroInt (w : World) : (zeroValue 3).run Tryz.prog w = .ok (.int .i64 0) w := by kernel_rfl
set_option maxRecDepth 100000 in
theorem say1_calls (w : World) (b : Nat) (n node : Int) (hb : w.cell? ⟨b, 0, none⟩ = some (.int .i64 node)) :
    Calls Tryz.prog 65 #[.int .i64 n, .pointer (some ⟨b, 0, none⟩)] w fun e w' => e = .returned (.bool (n == node)) ∧ w = w' := by
  go_enter Tryz.func65, Tryz.ntmps65
  go_wp2
  go_ret
  exact ⟨rfl, rfl⟩

set_option maxRecDepth 100000 in
theorem indexFunc_calls (w : World) (A : Option Addr) (c : Nat) (xs : List Int) (b : Nat) (node : Int) (hr : (Kd.int .i64).C w A xs.length xs) (hb : w.cell? ⟨b, 0, none⟩ = some (.int .i64 node)) :
    Calls Tryz.prog 79 #[.slice A xs.length c, .func (Fn.func 65) #[] #[.pointer (some ⟨b, 0, none⟩)]] w fun e w' => e = .returned (.int .i64 (idx xs node)) ∧ w = w' := by
  have HR := Lib.hid hr
  have hm : (xs.length : Int) ≤ 9223372036854775807 := by have := hr.2.1; omega
  clear hr
  have HB := Lib.hid hb
  clear hb
  go_enter Tryz.func79, Tryz.ntmps79
  go_wp2
  go_loop [8] (fun v => ∃ k : Nat, k ≤ xs.length ∧ v = .int .i64 k ∧ Hid (node ∉ xs.take k)) (fun v => xs.length - (intOf v).toNat)
  case atStart => exact ⟨0, Nat.zero_le _, rfl, by unfold Hid; simp⟩
  case round =>
    obtain ⟨k, hk, rfl, hno⟩ := hrel
    by_cases hlt : k < xs.length
    · obtain ⟨ad, rfl, hcell⟩ := C_cell HR.out hlt
      have HL := Lib.hid hlt
      have k0 : (0 : Int) ≤ k := by omega
      have k1 : (k : Int) < xs.length := by omega
      by_cases he : node = rd xs k
      · have hb : (rd xs k == node) = true := beq_iff_eq.2 he.symm
        have HE := Lib.hid he
        clear he hlt
        go_wp2_with (go_at_call 65; refine (say1_calls _ b _ node HB.out).mono ?_; rintro e w' ⟨rfl, rfl⟩)
        go_ret
        refine ⟨?_, rfl⟩
        have h1 := hno.out
        rw [HE.out] at h1 ⊢
        rw [idx_hit HL.out h1]
        rfl
      · have hb : (rd xs k == node) = false := beq_eq_false_iff_ne.2 (fun e => he e.symm)
        have HE := Lib.hid he
        clear he hlt
        go_wp2_with (go_at_call 65; refine (say1_calls _ b _ node HB.out).mono ?_; rintro e w' ⟨rfl, rfl⟩)
        go_round
        case rel =>
          refine ⟨k + 1, by omega, by go_num, ?_⟩
          unfold Hid
          rw [take_rd _ _ HL.out, List.mem_append]
          rintro (h | h)
          · exact hno.out h
          · simp at h; exact HE.out h
        case measure => simp [intOf]; omega
    · have k1 : ¬ (k : Int) < xs.length := by omega
      have HK := Lib.hid (show k = xs.length by omega)
      clear hlt
      go_wp2
      go_ret
      have h1 := hno.out
      rw [HK.out, List.take_length] at h1
      rw [idx_miss h1]
      exact ⟨rfl, rfl⟩

theorem idx_spec {xs : List Int} {n : Int} (h : n ∈ xs) : ∃ k, k < xs.length ∧ idx xs n = (k : Int) ∧ rd xs k = n ∧ n ∉ xs.take k := by
  have hlt := List.idxOf_lt_length_of_mem h
  have hk : rd xs (xs.idxOf n) = n := by rw [rd_get _ _ hlt]; exact List.getElem_idxOf hlt
  refine ⟨xs.idxOf n, hlt, by unfold idx; rw [if_pos h], hk, fun hc => ?_⟩
  have h1 : (xs.take (xs.idxOf n)).idxOf n < (xs.take (xs.idxOf n)).length := List.idxOf_lt_length_of_mem hc
  have h2 : xs.idxOf n = (xs.take (xs.idxOf n)).idxOf n := by
    conv => lhs; rw [← List.take_append_drop (xs.idxOf n) xs, List.idxOf_append, if_pos hc]
  rw [List.length_take] at h1
  omega
def drops (node : Int) (xs : List Int) : List Int := xs.filter fun x => !(x == node)
theorem drops_none {node : Int} {xs : List Int} (h : node ∉ xs) : drops node xs = xs := by
  unfold drops
  rw [List.filter_eq_self]
  intro x hx
  have : x ≠ node := fun e => h (e ▸ hx)
  simpa using this
theorem drops_take {node : Int} {xs : List Int} {j : Nat} (h : j < xs.length) : drops node (xs.take (j + 1)) = drops node (xs.take j) ++ (if rd xs j = node then [] else [rd xs j]) := by
  unfold drops
  rw [take_rd _ _ h, List.filter_append]
  congr 1
  by_cases e : rd xs j = node
  · simp [e]
  · have : (rd xs j == node) = false := by simpa using e
    simp [e]
theorem drops_len (node : Int) (xs : List Int) : (drops node xs).length ≤ xs.length := List.length_filter_le _ _
theorem take_set_succ {ys : List Int} {i : Nat} {v : Int} (h : i < ys.length) : (ys.set i v).take (i + 1) = ys.take i ++ [v] := by
  rw [List.take_succ_eq_append_getElem (by simpa using h), List.take_set, List.set_eq_of_length_le (by simp; omega), List.getElem_set_self]
/-- In the midst of DeleteFunc: i numbers stand, j have been looked at. -/
structure DelW (w wr : World) (base : Nat) (ok : Nat → Prop) (g c : Nat) (xs : List Int) (node : Int) (i j : Nat) : Prop where
  ys : ∃ ys : List Int, (Kd.int .i64).R 3 wr base ok (.slice (some ⟨g, 0, none⟩) xs.length c) ys ∧ ys.take i = drops node (xs.take j) ∧ ∀ m, j ≤ m → m < xs.length → rd ys m = rd xs m
  below : Below base w wr
  kept : Kept w wr (· = g)
section
variable {w wr : World} {base g c i j : Nat} {ok : Nat → Prop} {xs : List Int} {node : Int}
theorem DelW.at_ (h : DelW w wr base ok g c xs node i j) (hij : i < j) (hj : j < xs.length) : wr.cell? ⟨g, j, none⟩ = some (.int .i64 (rd xs j)) ∧ (∃ v, wr.cell? ⟨g, i, none⟩ = some v) ∧ wr.frozen? ⟨g, i, none⟩ = false := by
  obtain ⟨ys, hr, hp, hs⟩ := h.ys
  obtain ⟨hl, _, hc⟩ := Kd.R_reads' hr
  obtain ⟨ad, e, h1⟩ := C_cell hc (k := j) (by omega)
  cases e
  obtain ⟨h3, h4⟩ := Kd.R_celln (enc := Value.int .i64) 0 hr (i : Int) (by omega) (by omega)
  rw [hs j (Nat.le_refl _) hj] at h1
  exact ⟨by simpa [Addr.add, show j ≠ 0 by omega] using h1, ⟨_, by simpa using h3⟩, by simpa using h4⟩
theorem DelW.skip (h : DelW w wr base ok g c xs node i j) (hj : j < xs.length) (he : rd xs j = node) : DelW w wr base ok g c xs node i (j + 1) := by
  obtain ⟨ys, hr, hp, hs⟩ := h.ys
  refine ⟨⟨ys, hr, ?_, fun m h1 h2 => hs m (by omega) h2⟩, h.below, h.kept⟩
  rw [hp, drops_take hj, if_pos he, List.append_nil]
theorem DelW.keep (h : DelW w wr base ok g c xs node i j) (hij : i < j) (hj : j < xs.length) (he : rd xs j ≠ node) (hg : base ≤ g) : DelW w (wr.setCell ⟨g, i, none⟩ (.int .i64 (rd xs j))) base ok g c xs node (i + 1) (j + 1) := by
  obtain ⟨ys, hr, hp, hs⟩ := h.ys
  obtain ⟨hl, _, _⟩ := Kd.R_reads' hr
  have h3 := Kd.R_putn (enc := Value.int .i64) hr (i : Int) (rd xs j)
  simp only [Int.toNat_natCast] at h3
  refine ⟨⟨ys.set i (rd xs j), h3, ?_, fun m h1 h2 => ?_⟩, h.below.setCell hg _, ?_⟩
  · rw [drops_take hj, if_neg he, ← hp, take_set_succ (by omega)]
  · rw [← hs m (by omega) h2]
    simp only [rd, List.getD_eq_getElem?_getD]
    rw [List.getElem?_set_ne (by omega)]
  · refine ⟨by simpa [World.setCell] using h.kept.1, fun k hk hne => ?_⟩
    rw [Below.heap_setCell _ _ _ _ hne]
    exact h.kept.2 k hk hne
end
theorem R_zeros {g c n base : Nat} {ok : Nat → Prop} : ∀ (m o : Nat) (w : World) (ys : List Int), (Kd.int .i64).R 3 w base ok (.slice (some ⟨g, 0, none⟩) n c) ys →
    ∃ zs, (Kd.int .i64).R 3 (w.setCells g o (List.replicate m (.int .i64 0))) base ok (.slice (some ⟨g, 0, none⟩) n c) zs ∧ zs.take o = ys.take o
  | 0, o, w, ys, h => ⟨ys, h, rfl⟩
  | m + 1, o, w, ys, h => by
    have h3 := Kd.R_putn (enc := Value.int .i64) h (o : Int) 0
    simp only [Int.toNat_natCast] at h3
    obtain ⟨zs, h4, h5⟩ := R_zeros m (o + 1) _ _ h3
    refine ⟨zs, h4, ?_⟩
    have := congrArg (List.take o) h5
    rw [List.take_take, List.take_take, Nat.min_eq_left (by omega), List.take_set] at this
    rw [this, List.set_eq_of_length_le (by simp; omega)]
theorem kept_setCells {w w1 : World} {g : Nat} (h : Kept w w1 (· = g)) : ∀ (vs : List Value) (o : Nat), Kept w (w1.setCells g o vs) (· = g) := by
  intro vs
  induction vs generalizing w1 with
  | nil => intro o; exact h
  | cons v vs ih =>
    intro o
    refine ih ⟨by simpa [World.setCell] using h.1, fun k hk hne => ?_⟩ (o + 1)
    rw [Below.heap_setCell _ _ _ _ hne]
    exact h.2 k hk hne
theorem below_setCells {w w1 : World} {base g : Nat} (hg : base ≤ g) (h : Below base w w1) : ∀ (vs : List Value) (o : Nat), Below base w (w1.setCells g o vs) := by
  intro vs
  induction vs generalizing w1 with
  | nil => intro o; exact h
  | cons v vs ih => intro o; exact ih (h.setCell hg _) (o + 1)
def DelPost (w : World) (base : Nat) (ok : Nat → Prop) (g c : Nat) (xs : List Int) (node : Int) (e : Ending) (w' : World) : Prop :=
  e = .returned (.slice (some ⟨g, 0, none⟩) (drops node xs).length c) ∧ (Kd.int .i64).R 3 w' base ok (.slice (some ⟨g, 0, none⟩) (drops node xs).length c) (drops node xs) ∧ Below base w w' ∧ Kept w w' (· = g)
theorem DelW.ends {w wr : World} {base g c i m : Nat} {ok : Nat → Prop} {xs : List Int} {node : Int} (h : DelW w wr base ok g c xs node i xs.length) (hi : i < xs.length) (hg : base ≤ g) :
    DelPost w base ok g c xs node (.returned (.slice (some ⟨g, 0, none⟩) i c)) (wr.setCells g i (List.replicate m (.int .i64 0))) := by
  obtain ⟨ys, hr, hp, hs⟩ := h.ys
  obtain ⟨hl, _, _⟩ := Kd.R_reads' hr
  obtain ⟨zs, h1, h2⟩ := R_zeros m i wr ys hr
  rw [List.take_length] at hp
  have hi2 : i = (drops node xs).length := by rw [← hp, List.length_take]; omega
  obtain ⟨hl2, _, _⟩ := Kd.R_reads' h1
  have h3 := Kd.R_take h1 (m := i) (by omega)
  rw [h2, hp] at h3
  rw [hi2] at h3 ⊢
  exact ⟨rfl, h3, below_setCells hg h.below _ _, kept_setCells h.kept _ _⟩
set_option maxRecDepth 100000 in
theorem deleteFunc_calls (w : World) (base : Nat) (ok : Nat → Prop) (g c : Nat) (xs : List Int) (b : Nat) (node : Int) (hr : (Kd.int .i64).R 3 w base ok (.slice (some ⟨g, 0, none⟩) xs.length c) xs)
    (hb : w.cell? ⟨b, 0, none⟩ = some (.int .i64 node)) (hbg : b ≠ g) (hin : node ∈ xs) (h9 : xs.length ≤ 9) :
    Calls Tryz.prog 64 #[.slice (some ⟨g, 0, none⟩) xs.length c, .func (Fn.func 65) #[] #[.pointer (some ⟨b, 0, none⟩)]] w (DelPost w base ok g c xs node) := by
  have hC := (Kd.R_reads' hr).2.2
  obtain ⟨k0, hk0, hix, hrk, hno⟩ := idx_spec hin
  have hg : base ≤ g := by
    have h := (Kd.R_bound hr).1 g (by simp [Value.ownBlock])
    exact h.2.1
  have H0 : Aside0 (DelW w w base ok g c xs node k0 (k0 + 1)) := ⟨⟨xs, hr, by rw [drops_take hk0, if_pos hrk, List.append_nil, drops_none hno], fun _ _ _ => rfl⟩, Below.refl _ _, Kept.refl _ _⟩
  have HC := Lib.hid hC
  have HB := Lib.hid hb
  have HG := Lib.hid hg
  have HBG := Lib.hid hbg
  have n9 : (xs.length : Int) ≤ 9 := by omega
  have kn : (k0 : Int) < xs.length := by omega
  have kz : (0 : Int) ≤ k0 := by omega
  have hk1 : ((k0 : Int) == -1) = false := by rw [beq_eq_false_iff_ne]; omega
  have HIX := Lib.hid hix
  clear hr hb hin hC hrk hno h9 hix hk0 hg hbg
  go_enter Tryz.func64, Tryz.ntmps64
  go_wp2_with (go_at_call 79; refine (indexFunc_calls w _ c xs b node HC.out HB.out).mono ?_; rintro e w' ⟨rfl, rfl⟩; rw [HIX.out])
  go_loopw [5, 6] (fun v5 v6 wr => ∃ i j : Nat, v5 = .int .i64 i ∧ v6 = .int .i64 j ∧ i < j ∧ j ≤ xs.length ∧ Aside0 (DelW w wr base ok g c xs node i j)) (fun _ v _ => xs.length - (intOf v).toNat)
  case atStart => exact ⟨k0, k0 + 1, rfl, by go_num, by omega, by omega, H0⟩
  case round =>
    clear H0
    obtain ⟨i, j, rfl, rfl, hij, hjn, HD⟩ := hrel
    have i0 : (0 : Int) ≤ i := by omega
    have j0 : (0 : Int) ≤ j := by omega
    by_cases hlt : j < xs.length
    · have j1 : (j : Int) < xs.length := by omega
      have i1 : (i : Int) < xs.length := by omega
      obtain ⟨hcj, ⟨vi, hci⟩, hfi⟩ := HD.out.at_ hij hlt
      have HBr := Lib.hid (show wr.cell? ⟨b, 0, none⟩ = some (.int .i64 node) by
        have hlt : b < w.heap.size := World.block_lt_of_cell? w _ HB.out
        have := HD.out.kept.2 b hlt HBG.out
        rw [World.cell?_of_block (w := w) (w' := wr) (a := ⟨b, 0, none⟩) this]
        exact HB.out)
      obtain ⟨n, hn⟩ : ∃ n, n = rd xs j := ⟨_, rfl⟩
      rw [← hn] at hcj
      by_cases he : n = node
      · have hb : (n == node) = true := beq_iff_eq.2 he
        have HS := Aside0.mk (HD.out.skip hlt (hn ▸ he))
        clear he hn hlt
        go_wp2_with (go_at_call 65; refine (say1_calls _ b _ node HBr.out).mono ?_; rintro e w' ⟨rfl, rfl⟩)
        go_roundw
        case rel => exact ⟨i, j + 1, rfl, by go_num, by omega, by omega, HS⟩
        case measure => simp [intOf]; omega
      · have hb : (n == node) = false := beq_eq_false_iff_ne.2 he
        have HS := Aside0.mk (HD.out.keep hij hlt (hn ▸ he) HG.out)
        rw [← hn] at HS
        clear he hn hlt
        go_wp2_with (go_at_call 65; refine (say1_calls _ b _ node HBr.out).mono ?_; rintro e w' ⟨rfl, rfl⟩)
        go_roundw
        case rel => exact ⟨i + 1, j + 1, by go_num, by go_num, by omega, by omega, HS⟩
        case measure => simp [intOf]; omega
    · have j1 : ¬ (j : Int) < xs.length := by omega
      obtain rfl : j = xs.length := by omega
      have i1 : (i : Int) < xs.length := by omega
      have hclr := fun (ty : TypeId) => Lib.run_clear_slice (P := Tryz.prog) wr 22 3 ty (.int .i64 0) Tryz.underlying22 zeroInt rfl rfl g i (xs.length - i) (c - i) (by omega)
        (by
          intro q hq
          obtain ⟨ys, hr, _, _⟩ := HD.out.ys
          obtain ⟨h3, h4⟩ := Kd.R_celln (enc := Value.int .i64) 0 hr ((i + q : Nat) : Int) (by omega) (by omega)
          simp only [Int.toNat_natCast] at h3
          rw [h3]; rfl)
        (by
          intro q hq
          obtain ⟨ys, hr, _, _⟩ := HD.out.ys
          obtain ⟨h3, h4⟩ := Kd.R_celln (enc := Value.int .i64) 0 hr ((i + q : Nat) : Int) (by omega) (by omega)
          simpa only [Int.toNat_natCast] using h4)
      have hcn : (xs.length : Int) ≤ c := by
        obtain ⟨ys, hr, _, _⟩ := HD.out.ys
        have := (Kd.R_reads' hr).2.1
        omega
      have HI := Lib.hid hij
      clear hlt
      go_wp2
      go_ret
      exact HD.out.ends HI.out HG.out
end Go.Proofs.YtadaoplmicghcaaGreatDoor.Cm
namespace Go.Proofs.YtadaoplmicghcaaGreatDoor.Cm
open Go.RowKit Go.Proofs.YtadaoplmicghcaaGreatDoorW.PrintWords Go.Proofs.YtadaoplmicghcaaGreatDoorW.PrintLast Go.Proofs.YtadaoplmicghcaaGreatDoorW.PrintMore
set_option linter.unusedVariables false
set_option linter.unusedSimpArgs false

set_option maxRecDepth 100000 in
theorem indexS_calls (w : World) (A : Option Addr) (c : Nat) (xs : List Int) (n : Int) (hr : (Kd.int .i64).C w A xs.length xs) :
    Calls Tryz.prog 78 #[.slice A xs.length c, .int .i64 n] w fun e w' => e = .returned (.int .i64 (idx xs n)) ∧ w = w' := by
  have HR := Lib.hid hr
  have hm : (xs.length : Int) ≤ 9223372036854775807 := by have := hr.2.1; omega
  clear hr
  go_enter Tryz.func78, Tryz.ntmps78
  go_wp2
  go_loop [8] (fun v => ∃ k : Nat, k ≤ xs.length ∧ v = .int .i64 k ∧ Hid (n ∉ xs.take k)) (fun v => xs.length - (intOf v).toNat)
  case atStart => exact ⟨0, Nat.zero_le _, rfl, by unfold Hid; simp⟩
  case round =>
    obtain ⟨k, hk, rfl, hno⟩ := hrel
    by_cases hlt : k < xs.length
    · obtain ⟨ad, rfl, hcell⟩ := C_cell HR.out hlt
      have HL := Lib.hid hlt
      have k0 : (0 : Int) ≤ k := by omega
      have k1 : (k : Int) < xs.length := by omega
      by_cases he : n = rd xs k
      · have hb : (n == rd xs k) = true := beq_iff_eq.2 he
        have HE := Lib.hid he
        clear he hlt
        go_wp2
        go_ret
        refine ⟨?_, rfl⟩
        have h1 := hno.out
        rw [HE.out] at h1 ⊢
        rw [idx_hit HL.out h1]
        rfl
      · have hb : (n == rd xs k) = false := beq_eq_false_iff_ne.2 he
        have HE := Lib.hid he
        clear he hlt
        go_wp2
        go_round
        case rel =>
          refine ⟨k + 1, by omega, by go_num, ?_⟩
          unfold Hid
          rw [take_rd _ _ HL.out, List.mem_append]
          rintro (h | h)
          · exact hno.out h
          · simp at h; exact HE.out h
        case measure => simp [intOf]; omega
    · have k1 : ¬ (k : Int) < xs.length := by omega
      have HK := Lib.hid (show k = xs.length by omega)
      clear hlt
      go_wp2
      go_ret
      have h1 := hno.out
      rw [HK.out, List.take_length] at h1
      rw [idx_miss h1]
      exact ⟨rfl, rfl⟩

theorem containsS_calls (w : World) (A : Option Addr) (c : Nat) (xs : List Int) (n : Int) (hr : (Kd.int .i64).C w A xs.length xs) :
    Calls Tryz.prog 63 #[.slice A xs.length c, .int .i64 n] w fun e w' => e = .returned (.bool (decide (n ∈ xs))) ∧ w = w' := by
  have HR := Lib.hid hr
  clear hr
  go_enter Tryz.func63, Tryz.ntmps63
  go_wp2_with (go_at_call 78; refine (indexS_calls _ _ _ xs _ HR.out).mono ?_; rintro e w' ⟨rfl, rfl⟩)
  go_ret
  refine ⟨?_, rfl⟩
  rw [← idx_nonneg]
  rfl
end Go.Proofs.YtadaoplmicghcaaGreatDoor.Cm
namespace Go.Proofs.YtadaoplmicghcaaGreatDoor.Cm
open Go.RowKit Go.Proofs.YtadaoplmicghcaaGreatDoorW.PrintWords Go.Proofs.YtadaoplmicghcaaGreatDoorW.PrintLast Go.Proofs.YtadaoplmicghcaaGreatDoorW.PrintMore
set_option linter.unusedVariables false
set_option linter.unusedSimpArgs false

structure Dk where
  st : Int
  ws : List Int
  ns : List Int
  dc : List Int
structure Fine (D : Dk) : Prop where
  s0 : 0 ≤ D.st
  s3 : D.st ≤ 3
  w9 : D.ws.length ≤ 9
  n9 : D.ns.length ≤ 9
  d0 : D.st ≠ 0 → D.dc ≠ []
  dm : D.dc.length ≤ 1000
def Dk.decide (D : Dk) (s : Int) : Dk := { st := s, ws := D.ns, ns := D.ns, dc := D.dc.set (D.dc.length - 1) s }
def Dk.drop (D : Dk) (node : Int) : Dk := { D with ws := drops node D.ws }
/-- say, where the node is waited for. -/
def Dk.say (D : Dk) (node : Int) : Dk := if drops node D.ws ≠ [] then D.drop node else if D.st = 1 then D.decide 2 else { st := 0, ws := [], ns := [], dc := D.dc }
def Dk.begin_ (D : Dk) (xs : List Int) : Dk := { st := 1, ws := xs, ns := xs, dc := D.dc ++ [0] }
def Dk.at_ (D : Dk) (i : Int) : Int := if 1 ≤ i ∧ i ≤ D.dc.length then rd D.dc ((i - 1).toNat : Nat) else 0
def Dk.new : Dk := { st := 0, ws := [], ns := [], dc := [] }
theorem Fine.new : Fine Dk.new := ⟨by simp [Dk.new], by simp [Dk.new], by simp [Dk.new], by simp [Dk.new], by simp [Dk.new], by simp [Dk.new]⟩
theorem Fine.decide {D : Dk} (h : Fine D) {s : Int} (h0 : 0 ≤ s) (h3 : s ≤ 3) (hd : D.dc ≠ []) : Fine (D.decide s) := ⟨h0, h3, h.n9, h.n9, fun _ e => hd (by simpa [Dk.decide] using e), by simpa [Dk.decide] using h.dm⟩
theorem Fine.say {D : Dk} (h : Fine D) (node : Int) : Fine (D.say node) := by
  have := h.s0
  have := h.s3
  unfold Dk.say
  split
  · exact ⟨h.s0, h.s3, Nat.le_trans (drops_len _ _) h.w9, h.n9, h.d0, h.dm⟩
  · split
    · exact h.decide (by omega) (by omega) (h.d0 (by omega))
    · exact ⟨by simp, by simp, by simp, by simp, by simp, h.dm⟩
theorem Fine.begin_ {D : Dk} (h : Fine D) {xs : List Int} (hx : xs.length ≤ 9) (hd : D.dc.length < 1000) : Fine (D.begin_ xs) := ⟨by simp [Dk.begin_], by simp [Dk.begin_], hx, hx, by simp [Dk.begin_], by simp [Dk.begin_]; omega⟩

structure DeskAt (w : World) (lo : Nat) (K : Nat → Prop) (D : Dk) (p : Nat) (Aw : Option Addr) (cw : Nat) (An : Option Addr) (cn : Nat) (Ad : Option Addr) (cd : Nat) : Prop where
  blk : w.heap[p]? = some (.cells #[.int .i64 D.st, .slice Aw D.ws.length cw, .slice An D.ns.length cn, .slice Ad D.dc.length cd] 98 (0, 0))
  rw : (Kd.int .i64).R 3 w lo (fun k => K k ∧ k ≠ p) (.slice Aw D.ws.length cw) D.ws
  rn : (Kd.int .i64).R 3 w lo (fun k => K k ∧ k ≠ p) (.slice An D.ns.length cn) D.ns
  rd : (Kd.int .i64).R 46 w lo (fun k => K k ∧ k ≠ p) (.slice Ad D.dc.length cd) D.dc
  wn : ∀ k, (Value.slice Aw D.ws.length cw).ownBlock = some k → (Value.slice An D.ns.length cn).ownBlock ≠ some k
  wd : ∀ k, (Value.slice Aw D.ws.length cw).ownBlock = some k → (Value.slice Ad D.dc.length cd).ownBlock ≠ some k
  nd : ∀ k, (Value.slice An D.ns.length cn).ownBlock = some k → (Value.slice Ad D.dc.length cd).ownBlock ≠ some k
  kp : K p
  kb : ∀ k, K k → lo ≤ k ∧ k < w.heap.size
def IsDesk (w : World) (lo : Nat) (K : Nat → Prop) (D : Dk) (p : Nat) : Prop := ∃ Aw cw An cn Ad cd, DeskAt w lo K D p Aw cw An cn Ad cd
/-- The blocks of before, and what is new. -/
def Kx (K : Nat → Prop) (w w1 : World) (k : Nat) : Prop := K k ∨ w.heap.size ≤ k ∧ k < w1.heap.size
structure Moved (w w' : World) (lo : Nat) (K K' : Nat → Prop) : Prop where
  below : Below lo w w'
  kept : Kept w w' K
  new : ∀ k, K' k → K k ∨ w.heap.size ≤ k
theorem Moved.trans {w w1 w2 : World} {lo : Nat} {K K1 K2 : Nat → Prop} (h : Moved w w1 lo K K1) (k : Moved w1 w2 lo K1 K2) : Moved w w2 lo K K2 :=
  ⟨h.below.trans k.below, h.kept.then_ k.kept h.new, fun i hi => (k.new i hi).elim (h.new i) (fun h2 => .inr (Nat.le_trans h.below.size h2))⟩
theorem Moved.refl (w : World) (lo : Nat) (K : Nat → Prop) : Moved w w lo K K := ⟨Below.refl _ _, Kept.refl _ _, fun _ h => .inl h⟩
theorem R_far_own {e base : Nat} {ok : Nat → Prop} {w w1 : World} {v : Value} {xs : List Int} {S : Nat → Prop} (h : (Kd.int .i64).R e w base ok v xs) (hk : Kept w w1 S) (hn : ∀ k, v.ownBlock = some k → ¬ S k) : (Kd.int .i64).R e w1 base ok v xs :=
  Kd.R_mono (Kd.R_step (Kd.R_tight2 (d := Kd.int .i64) rfl h) (fun k hk1 hlt => hk.2 k hlt (hn k hk1.1.symm))) (fun _ hk => hk.2)
section
variable {w w1 : World} {lo p cw cn cd : Nat} {K K' : Nat → Prop} {D : Dk} {Aw An Ad : Option Addr}
theorem DeskAt.move (z : DeskAt w lo K D p Aw cw An cn Ad cd) (hm : ∀ k, K k → w1.heap[k]? = w.heap[k]?) (hs : w.heap.size ≤ w1.heap.size) : DeskAt w1 lo K D p Aw cw An cn Ad cd :=
  ⟨(hm _ z.kp).trans z.blk, Kd.R_move z.rw fun k hk => hm k hk.1, Kd.R_move z.rn fun k hk => hm k hk.1, Kd.R_move z.rd fun k hk => hm k hk.1, z.wn, z.wd, z.nd, z.kp, fun k hk => ⟨(z.kb k hk).1, Nat.lt_of_lt_of_le (z.kb k hk).2 hs⟩⟩
theorem DeskAt.widen (z : DeskAt w lo K D p Aw cw An cn Ad cd) (hk : ∀ k, K k → K' k) (hb : ∀ k, K' k → lo ≤ k ∧ k < w.heap.size) : DeskAt w lo K' D p Aw cw An cn Ad cd :=
  ⟨z.blk, Kd.R_mono z.rw fun k h => ⟨hk k h.1, h.2⟩, Kd.R_mono z.rn fun k h => ⟨hk k h.1, h.2⟩, Kd.R_mono z.rd fun k h => ⟨hk k h.1, h.2⟩, z.wn, z.wd, z.nd, hk _ z.kp, hb⟩
theorem DeskAt.low (z : DeskAt w lo K D p Aw cw An cn Ad cd) : lo ≤ w.heap.size := by have := z.kb _ z.kp; omega
theorem DeskAt.below (z : DeskAt w lo K D p Aw cw An cn Ad cd) (hb : Below w.heap.size w w1) : DeskAt w1 lo (Kx K w w1) D p Aw cw An cn Ad cd :=
  (z.move (fun k hk => hb.block k (z.kb k hk).2) hb.size).widen (fun k hk => .inl hk) fun k hk => by
    have := hb.size
    have := z.low
    rcases hk with hk | hk
    · have := z.kb k hk; omega
    · omega
theorem Moved.of_below (hb : Below w.heap.size w w1) (hlo : lo ≤ w.heap.size) (K : Nat → Prop) : Moved w w1 lo K (Kx K w w1) :=
  ⟨hb.mono hlo, Kept.of_below hb _, fun k hk => hk.elim .inl (fun h => .inr h.1)⟩
theorem DeskAt.stay (z : DeskAt w lo K D p Aw cw An cn Ad cd) (hb : Below w.heap.size w w1) : DeskAt w1 lo K D p Aw cw An cn Ad cd :=
  z.move (fun k hk => hb.block k (z.kb k hk).2) hb.size
theorem IsDesk.stay (z : IsDesk w lo K D p) (hb : Below w.heap.size w w1) : IsDesk w1 lo K D p := by
  obtain ⟨_, _, _, _, _, _, z⟩ := z
  exact ⟨_, _, _, _, _, _, z.stay hb⟩
theorem IsDesk.move (z : IsDesk w lo K D p) (hm : ∀ k, K k → w1.heap[k]? = w.heap[k]?) (hs : w.heap.size ≤ w1.heap.size) : IsDesk w1 lo K D p := by
  obtain ⟨_, _, _, _, _, _, z⟩ := z
  exact ⟨_, _, _, _, _, _, z.move hm hs⟩
theorem IsDesk.kb (z : IsDesk w lo K D p) : ∀ k, K k → lo ≤ k ∧ k < w.heap.size := by
  obtain ⟨_, _, _, _, _, _, z⟩ := z
  exact z.kb
theorem set_size (W : World) (g i : Nat) (u : Value) : (W.setCell ⟨g, i, none⟩ u).heap.size = W.heap.size := by simp [World.setCell]
theorem moved_set (z : DeskAt w lo K D p Aw cw An cn Ad cd) {g : Nat} (hg : K g) (i : Nat) (u : Value) : Moved w (w.setCell ⟨g, i, none⟩ u) lo K K :=
  ⟨(Below.refl _ _).setCell (z.kb g hg).1 _, ⟨by rw [set_size]; exact Nat.le_refl _, fun k hk hn => Below.heap_setCell _ _ _ _ (fun e => hn (e ▸ hg))⟩, fun k hk => .inl hk⟩
theorem DeskAt.setSt (z : DeskAt w lo K D p Aw cw An cn Ad cd) (s : Int) : DeskAt (w.setCell ⟨p, 0, none⟩ (.int .i64 s)) lo K { D with st := s } p Aw cw An cn Ad cd :=
  ⟨blk_set z.blk 0 _, Kd.R_far z.rw (fun k hk => hk.2) _, Kd.R_far z.rn (fun k hk => hk.2) _, Kd.R_far z.rd (fun k hk => hk.2) _, z.wn, z.wd, z.nd, z.kp, fun k hk => by rw [set_size]; exact z.kb k hk⟩
theorem DeskAt.setWs (z : DeskAt w lo K D p Aw cw An cn Ad cd) {A1 : Option Addr} {c1 : Nat} {xs : List Int} (hv : (Kd.int .i64).R 3 w lo (fun k => K k ∧ k ≠ p) (.slice A1 xs.length c1) xs)
    (hn : ∀ k, (Value.slice A1 xs.length c1).ownBlock = some k → (Value.slice An D.ns.length cn).ownBlock ≠ some k) (hd : ∀ k, (Value.slice A1 xs.length c1).ownBlock = some k → (Value.slice Ad D.dc.length cd).ownBlock ≠ some k) :
    DeskAt (w.setCell ⟨p, 1, none⟩ (.slice A1 xs.length c1)) lo K { D with ws := xs } p A1 c1 An cn Ad cd :=
  ⟨blk_set z.blk 1 _, Kd.R_far hv (fun k hk => hk.2) _, Kd.R_far z.rn (fun k hk => hk.2) _, Kd.R_far z.rd (fun k hk => hk.2) _, hn, hd, z.nd, z.kp, fun k hk => by rw [set_size]; exact z.kb k hk⟩
theorem DeskAt.setNs (z : DeskAt w lo K D p Aw cw An cn Ad cd) {A1 : Option Addr} {c1 : Nat} {xs : List Int} (hv : (Kd.int .i64).R 3 w lo (fun k => K k ∧ k ≠ p) (.slice A1 xs.length c1) xs)
    (hn : ∀ k, (Value.slice Aw D.ws.length cw).ownBlock = some k → (Value.slice A1 xs.length c1).ownBlock ≠ some k) (hd : ∀ k, (Value.slice A1 xs.length c1).ownBlock = some k → (Value.slice Ad D.dc.length cd).ownBlock ≠ some k) :
    DeskAt (w.setCell ⟨p, 2, none⟩ (.slice A1 xs.length c1)) lo K { D with ns := xs } p Aw cw A1 c1 Ad cd :=
  ⟨blk_set z.blk 2 _, Kd.R_far z.rw (fun k hk => hk.2) _, Kd.R_far hv (fun k hk => hk.2) _, Kd.R_far z.rd (fun k hk => hk.2) _, hn, z.wd, hd, z.kp, fun k hk => by rw [set_size]; exact z.kb k hk⟩
theorem DeskAt.setDc (z : DeskAt w lo K D p Aw cw An cn Ad cd) {A1 : Option Addr} {c1 : Nat} {xs : List Int} (hv : (Kd.int .i64).R 46 w lo (fun k => K k ∧ k ≠ p) (.slice A1 xs.length c1) xs)
    (hn : ∀ k, (Value.slice Aw D.ws.length cw).ownBlock = some k → (Value.slice A1 xs.length c1).ownBlock ≠ some k) (hd : ∀ k, (Value.slice An D.ns.length cn).ownBlock = some k → (Value.slice A1 xs.length c1).ownBlock ≠ some k) :
    DeskAt (w.setCell ⟨p, 3, none⟩ (.slice A1 xs.length c1)) lo K { D with dc := xs } p Aw cw An cn A1 c1 :=
  ⟨blk_set z.blk 3 _, Kd.R_far z.rw (fun k hk => hk.2) _, Kd.R_far z.rn (fun k hk => hk.2) _, Kd.R_far hv (fun k hk => hk.2) _, z.wn, hn, hd, z.kp, fun k hk => by rw [set_size]; exact z.kb k hk⟩
/-- A row that was made behind a world lies apart from those of that world. -/
theorem apart_new {e e2 n1 n2 c1 c2 b b2 : Nat} {A1 A2 : Option Addr} {ok ok2 : Nat → Prop} {xs ys : List Int} (h : (Kd.int .i64).R e w b ok (.slice A1 n1 c1) xs) (h2 : (Kd.int .i64).R e2 w1 b2 ok2 (.slice A2 n2 c2) ys) (hb : w.heap.size ≤ b2) :
    ∀ k, (Value.slice A2 n2 c2).ownBlock = some k → (Value.slice A1 n1 c1).ownBlock ≠ some k := by
  intro k h3 h4
  have := Kd.R_base h2 k h3
  have := Kd.R_lt h k h4
  omega
theorem row_in {e b : Nat} {ok : Nat → Prop} {v : Value} {xs : List Int} (h : (Kd.int .i64).R e w1 w.heap.size ok v xs) (hlo : lo ≤ w.heap.size) (hp : p < w.heap.size) : (Kd.int .i64).R e w1 lo (fun k => Kx K w w1 k ∧ k ≠ p) v xs :=
  Kd.R_lower (Kd.R_mono (Kd.R_bound h) (fun k hk => ⟨.inr ⟨hk.2.1, hk.2.2.1⟩, by have := hk.2.1; omega⟩)) hlo
end
end Go.Proofs.YtadaoplmicghcaaGreatDoor.Cm
namespace Go.Proofs.YtadaoplmicghcaaGreatDoor.Cm
open Go.RowKit Go.Proofs.YtadaoplmicghcaaGreatDoorW.PrintWords Go.Proofs.YtadaoplmicghcaaGreatDoorW.PrintLast Go.Proofs.YtadaoplmicghcaaGreatDoorW.PrintMore
set_option linter.unusedVariables false
set_option linter.unusedSimpArgs false

set_option maxRecDepth 100000 in
theorem new_calls (w : World) : Calls Tryz.prog 8 #[] w fun e w' => ∃ p K, e = .returned (.pointer (some ⟨p, 0, none⟩)) ∧ IsDesk w' w.heap.size K Dk.new p ∧ Below w.heap.size w w' ∧ ∀ k, K k → w.heap.size ≤ k := by
  go_enter Tryz.func8, Tryz.ntmps8
  go_wp2
  go_ret
  refine ⟨_, (· = w.heap.size), rfl, ⟨none, 0, none, 0, none, 0, ?_, Kd.R_nil _ _ _ _ _, Kd.R_nil _ _ _ _ _, Kd.R_nil _ _ _ _ _, ?_, ?_, ?_, rfl, ?_⟩, below_alloc (Below.refl _ _) _, fun k hk => by omega⟩
  · simpa [Dk.new] using heap_alloc_new w (.cells #[.int .i64 0, .slice none 0 0, .slice none 0 0, .slice none 0 0] 98)
  · intro k h; simp [Value.ownBlock] at h
  · intro k h; simp [Value.ownBlock] at h
  · intro k h; simp [Value.ownBlock] at h
  · intro k hk; subst hk; simp
section
variable {w : World} {lo p : Nat} {K : Nat → Prop} {D : Dk}
set_option maxRecDepth 100000 in
theorem state_calls (hW : IsDesk w lo K D p) :
    Calls Tryz.prog 10 #[.pointer (some ⟨p, 0, none⟩)] w fun e w' => e = .returned (.int .i64 D.st) ∧ w = w' := by
  obtain ⟨Aw, cw, An, cn, Ad, cd, z⟩ := hW
  have c0 := blk_cell z.blk 0
  simp at c0
  clear z
  go_enter Tryz.func10, Tryz.ntmps10
  go_wp2
  go_ret
  exact ⟨rfl, rfl⟩
set_option maxRecDepth 100000 in
theorem decided_calls (hW : IsDesk w lo K D p) (hF : Fine D) (i : Int) :
    Calls Tryz.prog 17 #[.pointer (some ⟨p, 0, none⟩), .int .i64 i] w fun e w' => e = .returned (.int .i64 (D.at_ i)) ∧ w = w' := by
  obtain ⟨Aw, cw, An, cn, Ad, cd, z⟩ := hW
  have c0 := blk_cell z.blk 3
  simp at c0
  have HC := Lib.hid (Kd.R_reads' z.rd).2.2
  have dm : (D.dc.length : Int) ≤ 1000 := by have := hF.dm; omega
  clear z hF
  by_cases h1 : i < 1
  · have HD : Hid (D.at_ i = 0) := by unfold Hid Dk.at_; rw [if_neg (by omega)]
    go_enter Tryz.func17, Tryz.ntmps17
    go_wp2
    go_ret
    rw [HD.out]
    exact ⟨rfl, rfl⟩
  · by_cases h2 : (D.dc.length : Int) < i
    · have HD : Hid (D.at_ i = 0) := by unfold Hid Dk.at_; rw [if_neg (by omega)]
      go_enter Tryz.func17, Tryz.ntmps17
      go_wp2
      go_ret
      rw [HD.out]
      exact ⟨rfl, rfl⟩
    · obtain ⟨j, rfl⟩ : ∃ j : Nat, i = (j : Int) + 1 := ⟨(i - 1).toNat, by omega⟩
      have hj : j < D.dc.length := by omega
      have HD : Hid (D.at_ ((j : Int) + 1) = rd D.dc j) := by
        unfold Hid Dk.at_
        rw [if_pos (by omega)]
        congr 1
        omega
      obtain ⟨ad, rfl, hcell⟩ := C_cell HC.out hj
      have j0 : (0 : Int) ≤ j := by omega
      have j1 : (j : Int) < D.dc.length := by omega
      clear hj
      go_enter Tryz.func17, Tryz.ntmps17
      go_wp2
      go_ret
      rw [HD.out]
      exact ⟨rfl, rfl⟩
set_option maxRecDepth 100000 in
theorem now_calls (hW : IsDesk w lo K D p) (i : Int) (A : Option Addr) (c : Nat) (ss : List Int) (hs : (Kd.int .i64).C w A ss.length ss) :
    Calls Tryz.prog 42 #[.pointer (some ⟨p, 0, none⟩), .int .i64 i, .slice A ss.length c] w fun e w' => e = .returned (.bool (i == D.dc.length && decide (D.st ∈ ss))) ∧ w = w' := by
  obtain ⟨Aw, cw, An, cn, Ad, cd, z⟩ := hW
  have c0 := blk_cell z.blk 0
  have c3 := blk_cell z.blk 3
  simp at c0 c3
  have HS := Lib.hid hs
  clear z hs
  by_cases hi : i = D.dc.length
  · have hb : (i == (D.dc.length : Int)) = true := beq_iff_eq.2 hi
    have HB := Lib.hid hb
    clear hi
    go_enter Tryz.func42, Tryz.ntmps42
    go_wp2_with (go_at_call 63; refine (containsS_calls _ _ _ ss _ HS.out).mono ?_; rintro e w' ⟨rfl, rfl⟩)
    go_ret
    rw [HB.out, Bool.true_and]
    exact ⟨rfl, rfl⟩
  · have hb : (i == (D.dc.length : Int)) = false := beq_eq_false_iff_ne.2 hi
    have HB := Lib.hid hb
    clear hi
    go_enter Tryz.func42, Tryz.ntmps42
    go_wp2
    go_ret
    rw [HB.out, Bool.false_and]
    exact ⟨rfl, rfl⟩
end
end Go.Proofs.YtadaoplmicghcaaGreatDoor.Cm
namespace Go.Proofs.YtadaoplmicghcaaGreatDoor.Cm
open Go.RowKit Go.Proofs.YtadaoplmicghcaaGreatDoorW.PrintWords Go.Proofs.YtadaoplmicghcaaGreatDoorW.PrintLast Go.Proofs.YtadaoplmicghcaaGreatDoorW.PrintMore
set_option linter.unusedVariables false
set_option linter.unusedSimpArgs false

def errV (c : Int) : Value := if c = 0 then .nilIface else .iface 28 (.int .i64 c)
def Dk.sayR (D : Dk) (node : Int) : Int × Dk := if node ∉ D.ns then (12, D) else if node ∉ D.ws then (9, D) else (0, D.say node)
def Dk.readyR (D : Dk) (i node : Int) : Int × Dk := if D.st = 1 ∧ i = D.dc.length then D.sayR node else (21, D)
def Dk.doneR (D : Dk) (i node : Int) : Int × Dk := if (D.st = 2 ∨ D.st = 3) ∧ i = D.dc.length then D.sayR node else (21, D)
def Dk.cancelR (D : Dk) (i : Int) : Int × Dk := if D.st = 1 ∧ i = D.dc.length then (0, D.decide 3) else (21, D)
def Dk.recoverR (D : Dk) : Dk := if D.st = 1 then D.decide 3 else D
/-- What a call makes of a desk. -/
def Leaves (w : World) (lo : Nat) (K : Nat → Prop) (p : Nat) (D' : Dk) (w' : World) : Prop := ∃ K', IsDesk w' lo K' D' p ∧ Moved w w' lo K K'
def Says (w : World) (lo : Nat) (K : Nat → Prop) (p : Nat) (r : Int × Dk) (e : Ending) (w' : World) : Prop := e = .returned (errV r.1) ∧ Leaves w lo K p r.2 w'
theorem Leaves.refl {w : World} {lo : Nat} {K : Nat → Prop} {p : Nat} {D : Dk} (h : IsDesk w lo K D p) : Leaves w lo K p D w := ⟨K, h, Moved.refl _ _ _⟩
theorem Leaves.then_ {w w1 w2 : World} {lo : Nat} {K K1 : Nat → Prop} {p : Nat} {D : Dk} (h : Moved w w1 lo K K1) (k : Leaves w1 lo K1 p D w2) : Leaves w lo K p D w2 := by
  obtain ⟨K', h1, h2⟩ := k
  exact ⟨K', h1, h.trans h2⟩
theorem DeskAt.drewN {w : World} {lo p cw cn cd : Nat} {K : Nat → Prop} {D : Dk} {Aw An Ad : Option Addr} (z : DeskAt w lo K D p Aw cw An cn Ad cd) (m : Nat) : DeskAt (w.drewN m) lo K D p Aw cw An cn Ad cd := z.move (fun _ _ => rfl) (Nat.le_refl _)
theorem moved_drewN {w w1 : World} {lo : Nat} {K K1 : Nat → Prop} (h : Moved w w1 lo K K1) (m : Nat) : Moved w (w1.drewN m) lo K K1 := h.trans ⟨pw_below_drewN (Below.refl _ _) _, ⟨Nat.le_refl _, fun _ _ _ => rfl⟩, fun _ h => .inl h⟩
theorem DeskAt.decided0 {w w1 : World} {lo p cw cn cd k1 : Nat} {K : Nat → Prop} {D : Dk} {Aw An Ad A1 : Option Addr} (z : DeskAt w lo K D p Aw cw An cn Ad cd) (hb : Below w.heap.size w w1) (hv : (Kd.int .i64).R 3 w1 w.heap.size (fun _ => True) (.slice A1 D.ns.length k1) D.ns) (s : Int) :
    DeskAt ((w1.setCell ⟨p, 0, none⟩ (.int .i64 s)).setCell ⟨p, 1, none⟩ (.slice A1 D.ns.length k1)) lo (Kx K w w1) { st := s, ws := D.ns, ns := D.ns, dc := D.dc } p A1 k1 An cn Ad cd ∧ Moved w ((w1.setCell ⟨p, 0, none⟩ (.int .i64 s)).setCell ⟨p, 1, none⟩ (.slice A1 D.ns.length k1)) lo K (Kx K w w1) := by
  have z1 := z.below hb
  have z2 := z1.setSt s
  have hp : p < w.heap.size := (z.kb p z.kp).2
  have hr := row_in (b := 0) (p := p) (K := K) hv z.low hp
  have hr2 := Kd.R_far hr (p := ⟨p, 0, none⟩) (fun k hk => hk.2) (.int .i64 s)
  refine ⟨z2.setWs hr2 ?_ ?_, ((Moved.of_below hb z.low K).trans (moved_set z1 z1.kp 0 _)).trans (moved_set z2 z2.kp 1 _)⟩
  · exact fun k h => apart_new z.rn hv (Nat.le_refl _) k h
  · exact fun k h => apart_new z.rd hv (Nat.le_refl _) k h
theorem last_cells {w : World} {lo p cw cn cd : Nat} {K : Nat → Prop} {D : Dk} {Aw An Ad : Option Addr} (z : DeskAt w lo K D p Aw cw An cn Ad cd) (hd : D.dc ≠ []) :
    ∃ g, Ad = some ⟨g, 0, none⟩ ∧ (∃ v, w.cell? ⟨g, D.dc.length - 1, none⟩ = some v) ∧ w.frozen? ⟨g, D.dc.length - 1, none⟩ = false := by
  have hl : 0 < D.dc.length := List.length_pos_iff.2 hd
  have hr := z.rd
  obtain ⟨ad, rfl, _⟩ := C_cell (Kd.R_reads' hr).2.2 hl
  obtain ⟨g, rfl⟩ := Kd.R_head hr
  obtain ⟨h1, h2⟩ := Kd.R_celln (enc := Value.int .i64) 0 hr ((D.dc.length - 1 : Nat) : Int) (by omega) (by omega)
  rw [Int.toNat_natCast] at h1 h2
  exact ⟨g, rfl, ⟨_, h1⟩, h2⟩
theorem R_far1set {e base g : Nat} {ok : Nat → Prop} {w : World} {v : Value} {xs : List Int} (h : (Kd.int .i64).R e w base ok v xs) (hne : some g ≠ v.ownBlock) (i : Nat) (u : Value) : (Kd.int .i64).R e (w.setCell ⟨g, i, none⟩ u) base ok v xs :=
  Kd.R_mono (Kd.R_far (Kd.R_far1 h rfl hne) (p := ⟨g, i, none⟩) (fun k hk => hk.2) u) (fun _ hk => hk.1)
theorem DeskAt.setLast {w : World} {lo p cw cn cd g : Nat} {K : Nat → Prop} {D : Dk} {Aw An : Option Addr} (z : DeskAt w lo K D p Aw cw An cn (some ⟨g, 0, none⟩) cd) (s : Int) (i : Nat) :
    DeskAt (w.setCell ⟨g, i, none⟩ (.int .i64 s)) lo K { D with dc := D.dc.set i s } p Aw cw An cn (some ⟨g, 0, none⟩) cd ∧ Moved w (w.setCell ⟨g, i, none⟩ (.int .i64 s)) lo K K := by
  have hg : K g ∧ g ≠ p := z.rd.1 g (by simp [Value.ownBlock])
  have h3 := Kd.R_putn (enc := Value.int .i64) z.rd (i : Int) s
  simp only [Int.toNat_natCast] at h3
  have hm := moved_set z hg.1 i (.int .i64 s)
  have hl : (D.dc.set i s).length = D.dc.length := List.length_set
  refine ⟨⟨?_, ?_, ?_, ?_, z.wn, ?_, ?_, z.kp, fun k hk => by rw [set_size]; exact z.kb k hk⟩, hm⟩
  · rw [Below.heap_setCell _ _ _ _ hg.2.symm, z.blk, hl]
  · exact R_far1set z.rw (fun e => z.wd g e.symm (by simp [Value.ownBlock])) i _
  · exact R_far1set z.rn (fun e => z.nd g e.symm (by simp [Value.ownBlock])) i _
  · rw [hl]; exact h3
  · rw [hl]; exact z.wd
  · rw [hl]; exact z.nd
/-- A literal that was made ahead. -/
theorem Leaves.lits {w w1 : World} {lo : Nat} {K : Nat → Prop} {p : Nat} {D D' : Dk} {o : Obj} (k : Leaves (w.alloc o) lo K p D' w1) (h : IsDesk w lo K D p) : Leaves w lo K p D' w1 := by
  obtain ⟨K', h1, h2⟩ := k
  obtain ⟨_, _, _, _, _, _, z⟩ := h
  refine ⟨K', h1, ((below_alloc (Below.refl _ _) o).mono z.low).trans h2.below, (Kept.of_below (below_alloc (Below.refl _ _) o) K).then_ h2.kept (fun k hk => .inl hk), fun k hk => (h2.new k hk).elim .inl fun h3 => .inr (by simp at h3; omega)⟩
section
variable {w : World} {lo p : Nat} {K : Nat → Prop} {D : Dk}
set_option maxRecDepth 100000 in
theorem decide_calls (hW : IsDesk w lo K D p) (hF : Fine D) (hd : D.dc ≠ []) (s : Int) :
    Calls Tryz.prog 39 #[.pointer (some ⟨p, 0, none⟩), .int .i64 s] w fun e w' => e = .returned (.tuple #[]) ∧ Leaves w lo K p (D.decide s) w' := by
  obtain ⟨Aw, cw, An, cn, Ad, cd, z⟩ := hW
  have c2 := blk_cell z.blk 2
  simp at c2
  have HC := Lib.hid (Kd.R_reads' z.rn).2.2
  have h9 := Lib.hid hF.n9
  have Z := Lib.hid z
  have HD := Lib.hid hd
  have HF := Lib.hid hF
  clear z hF hd
  go_enter Tryz.func39, Tryz.ntmps39
  go_upto_region 0 with (fail)
  go_cut [] (fun wx => ∃ K1 A1 k1, Aside0 (DeskAt wx lo K1 { st := s, ws := D.ns, ns := D.ns, dc := D.dc } p A1 k1 An cn Ad cd) ∧ Aside0 (Moved w wx lo K K1))
  case first =>
    go_wp2_with (go_at_call 38; refine (clone_calls _ _ _ D.ns HC.out (by have := h9.out; omega)).mono ?_; rintro e w1 ⟨v, rfl, hv, hb⟩; obtain ⟨A1, k1, rfl, _, _⟩ := Kd.R_reads hv; have Z1 := Lib.hid (Z.out.below hb); have HV := Lib.hid hv; have HB := Lib.hid hb; have c0 := blk_cell Z1.out.blk 0; have f0 := blk_frozen Z1.out.blk 0; have c1 := blk_cell Z1.out.blk 1; have f1 := blk_frozen Z1.out.blk 1; simp at c0 c1; clear hv hb)
    go_meet
    case rel =>
      obtain ⟨h1, h2⟩ := Z.out.decided0 HB.out HV.out s
      exact ⟨_, _, _, ⟨h1⟩, ⟨h2⟩⟩
  case rest =>
    obtain ⟨K1, A1, k1, H1, H2⟩ := hcut
    have c3 := blk_cell H1.out.blk 3
    simp at c3
    obtain ⟨g, rfl, ⟨v, hc⟩, hf⟩ := last_cells H1.out HD.out
    have hl1 : (1 : Int) ≤ D.dc.length := by have := List.length_pos_iff.2 HD.out; omega
    have hl2 : (D.dc.length : Int) ≤ 1000 := by have := HF.out.dm; omega
    have ht : ((D.dc.length : Int) - 1).toNat = D.dc.length - 1 := by omega
    go_wp2
    go_region
    all_goals
      go_end0
      obtain ⟨h1, h2⟩ := H1.out.setLast s (D.dc.length - 1)
      exact ⟨rfl, K1, ⟨_, _, _, _, _, _, h1.drewN 1⟩, moved_drewN (H2.out.trans h2) 1⟩
end
end Go.Proofs.YtadaoplmicghcaaGreatDoor.Cm
namespace Go.Proofs.YtadaoplmicghcaaGreatDoor.Cm
open Go.RowKit Go.Proofs.YtadaoplmicghcaaGreatDoorW.PrintWords Go.Proofs.YtadaoplmicghcaaGreatDoorW.PrintLast Go.Proofs.YtadaoplmicghcaaGreatDoorW.PrintMore
set_option linter.unusedVariables false
set_option linter.unusedSimpArgs false

/-- In the midst of say: the node lies in a box of its own. -/
structure SayW (w wx : World) (lo : Nat) (K : Nat → Prop) (D : Dk) (p : Nat) (b : Nat) (node : Int) : Prop where
  desk : IsDesk wx lo K D p
  box : wx.cell? ⟨b, 0, none⟩ = some (.int .i64 node)
  far : ¬ K b
  moved : Moved w wx lo K K
theorem SayW.drewN {w wx : World} {lo b p : Nat} {K : Nat → Prop} {D : Dk} {node : Int} (h : SayW w wx lo K D p b node) (m : Nat) : SayW w (wx.drewN m) lo K D p b node :=
  ⟨h.desk.move (fun _ _ => rfl) (Nat.le_refl _), h.box, h.far, moved_drewN h.moved m⟩
theorem SayW.start {w : World} {lo p : Nat} {K : Nat → Prop} {D : Dk} {node : Int} (h : IsDesk w lo K D p) : SayW w (w.alloc (.cells #[.int .i64 node] 3)) lo K D p w.heap.size node := by
  have hb := below_alloc (Below.refl w.heap.size w) (.cells #[.int .i64 node] 3)
  refine ⟨h.stay hb, ?_, fun hk => ?_, ?_⟩
  · rw [World.cell?_alloc_new]; rfl
  · have := (h.kb _ hk).2; omega
  · obtain ⟨_, _, _, _, _, _, z⟩ := h
    exact ⟨hb.mono z.low, Kept.of_below hb K, fun k hk => .inl hk⟩
theorem DeskAt.deleted {w w1 : World} {lo p cw cn cd g : Nat} {K : Nat → Prop} {D : Dk} {An Ad : Option Addr} {node : Int} {e : Ending} (z : DeskAt w lo K D p (some ⟨g, 0, none⟩) cw An cn Ad cd)
    (h : DelPost w lo (fun k => K k ∧ k ≠ p) g cw D.ws node e w1) :
    w1.heap[p]? = w.heap[p]? ∧ DeskAt (w1.setCell ⟨p, 1, none⟩ (.slice (some ⟨g, 0, none⟩) (drops node D.ws).length cw)) lo K (D.drop node) p (some ⟨g, 0, none⟩) cw An cn Ad cd ∧ Moved w (w1.setCell ⟨p, 1, none⟩ (.slice (some ⟨g, 0, none⟩) (drops node D.ws).length cw)) lo K K := by
  obtain ⟨_, h2, h3, h4⟩ := h
  have hg : K g ∧ g ≠ p := z.rw.1 g (by simp [Value.ownBlock])
  have hp : w1.heap[p]? = w.heap[p]? := h4.2 p (z.kb p z.kp).2 (fun e => hg.2 e.symm)
  have hn : ∀ k, (Value.slice An D.ns.length cn).ownBlock = some k → ¬ k = g := fun k hk e => z.wn g (by simp [Value.ownBlock]) (e ▸ hk)
  have hd : ∀ k, (Value.slice Ad D.dc.length cd).ownBlock = some k → ¬ k = g := fun k hk e => z.wd g (by simp [Value.ownBlock]) (e ▸ hk)
  have hs : ∀ k, K k → lo ≤ k ∧ k < w1.heap.size := fun k hk => ⟨(z.kb k hk).1, Nat.lt_of_lt_of_le (z.kb k hk).2 h3.size⟩
  refine ⟨hp, ⟨blk_set (hp.trans z.blk) 1 _, Kd.R_far h2 (fun k hk => hk.2) _, Kd.R_far (R_far_own z.rn h4 hn) (fun k hk => hk.2) _, Kd.R_far (R_far_own z.rd h4 hd) (fun k hk => hk.2) _, ?_, ?_, z.nd, z.kp, fun k hk => by rw [set_size]; exact hs k hk⟩, ?_⟩
  · exact fun k hk => z.wn k (by simpa [Value.ownBlock] using hk)
  · exact fun k hk => z.wd k (by simpa [Value.ownBlock] using hk)
  · refine ⟨h3.setCell (z.kb p z.kp).1 _, ⟨by rw [set_size]; exact h3.size, fun k hk hn => ?_⟩, fun k hk => .inl hk⟩
    rw [Below.heap_setCell _ _ _ _ (fun (e : k = p) => hn (e ▸ z.kp))]
    exact h4.2 k hk (fun e => hn (e ▸ hg.1))

section
variable {w : World} {lo p : Nat} {K : Nat → Prop} {D : Dk}
set_option maxRecDepth 100000 in
set_option maxHeartbeats 1000000 in
theorem say_none (hW : IsDesk w lo K D p) (node : Int) (hn : node ∉ D.ns) :
    Calls Tryz.prog 43 #[.pointer (some ⟨p, 0, none⟩), .int .i64 node] w (Says w lo K p (12, D)) := by
  have HS := Lib.hid (SayW.start (node := node) hW)
  have hd : decide (node ∈ D.ns) = false := by simpa using hn
  clear hW hn
  go_enter Tryz.func43, Tryz.ntmps43
  go_upto_region 0 with (fail)
  go_cut [3, 4] (fun s3 s4 wx => s4 = .nilIface ∧ ∃ b, s3 = .pointer (some ⟨b, 0, none⟩) ∧ Aside0 (SayW w wx lo K D p b node))
  case first =>
    go_wp2
    go_meet
    case rel => exact ⟨rfl, _, rfl, ⟨HS.out⟩⟩
  case rest =>
    clear HS
    obtain ⟨rfl, b, rfl, H⟩ := hcut
    obtain ⟨Aw, cw, An, cn, Ad, cd, z⟩ := H.out.desk
    have c2 := blk_cell z.blk 2
    simp at c2
    have hbx := H.out.box
    have HC := Lib.hid (Kd.R_reads' z.rn).2.2
    clear z
    go_wp2
    go_quiet ((go_at_call 41; exact Calls.quiet_of_same ((contains_calls _ _ _ D.ns _ (Kd.C_drewN HC.out _)).mono fun _ _ ⟨h, k⟩ => ⟨h, k.symm⟩)))
    go_wp2
    go_ret
    exact ⟨rfl, K, H.out.desk.move (fun _ _ => rfl) (Nat.le_refl _), moved_drewN H.out.moved _⟩
set_option maxRecDepth 100000 in
set_option maxHeartbeats 1000000 in
theorem say_again (hW : IsDesk w lo K D p) (node : Int) (hn : node ∈ D.ns) (hv : node ∉ D.ws) :
    Calls Tryz.prog 43 #[.pointer (some ⟨p, 0, none⟩), .int .i64 node] w (Says w lo K p (9, D)) := by
  have HS := Lib.hid (SayW.start (node := node) hW)
  have hd : decide (node ∈ D.ns) = true := by simpa using hn
  have hd2 : decide (node ∈ D.ws) = false := by simpa using hv
  clear hW hn hv
  go_enter Tryz.func43, Tryz.ntmps43
  go_upto_region 0 with (fail)
  go_cut [3, 4] (fun s3 s4 wx => s4 = .nilIface ∧ ∃ b, s3 = .pointer (some ⟨b, 0, none⟩) ∧ Aside0 (SayW w wx lo K D p b node))
  case first =>
    go_wp2
    go_meet
    case rel => exact ⟨rfl, _, rfl, ⟨HS.out⟩⟩
  case rest =>
    clear HS
    obtain ⟨rfl, b, rfl, H⟩ := hcut
    obtain ⟨Aw, cw, An, cn, Ad, cd, z⟩ := H.out.desk
    have c2 := blk_cell z.blk 2
    have c1 := blk_cell z.blk 1
    simp at c2 c1
    have hbx := H.out.box
    have HC := Lib.hid (Kd.R_reads' z.rn).2.2
    have HCw := Lib.hid (Kd.R_reads' z.rw).2.2
    clear z
    obtain ⟨wx, rfl⟩ : ∃ wx, wx = wc := ⟨_, rfl⟩
    go_upto_region 1 with (fail)
    go_cut [5] (fun s5 wy => s5 = .bool false ∧ Aside0 (∃ m, wy = wx.drewN m))
    case first =>
      go_wp2
      go_quiet ((go_at_call 41; exact Calls.quiet_of_same ((contains_calls _ _ _ D.ns _ (Kd.C_drewN HC.out _)).mono fun _ _ ⟨h, k⟩ => ⟨h, k.symm⟩)))
      go_wp2
      go_meet
      case rel => exact ⟨rfl, ⟨_, rfl⟩⟩
    case rest =>
      obtain ⟨rfl, hm⟩ := hcut
      have H1 : Aside0 (SayW w wc lo K D p b node) := by
        obtain ⟨m, rfl⟩ := hm.out
        exact ⟨H.out.drewN m⟩
      clear H hm c1 c2 hbx HC HCw
      obtain ⟨Aw, cw, An, cn, Ad, cd, z⟩ := H1.out.desk
      have c1 := blk_cell z.blk 1
      simp at c1
      have hbx := H1.out.box
      have HC := Lib.hid (Kd.R_reads' z.rw).2.2
      clear z
      go_wp2
      go_quiet ((go_at_call 41; exact Calls.quiet_of_same ((contains_calls _ _ _ D.ws _ (Kd.C_drewN HC.out _)).mono fun _ _ ⟨h, k⟩ => ⟨h, k.symm⟩)))
      go_wp2
      go_ret
      exact ⟨rfl, K, H1.out.desk.move (fun _ _ => rfl) (Nat.le_refl _), moved_drewN H1.out.moved _⟩
set_option maxRecDepth 100000 in
set_option maxHeartbeats 2000000 in
theorem say_goes (hW : IsDesk w lo K D p) (hF : Fine D) (node : Int) (hn : node ∈ D.ns) (hv : node ∈ D.ws) (h0 : D.st ≠ 0) :
    Calls Tryz.prog 43 #[.pointer (some ⟨p, 0, none⟩), .int .i64 node] w (Says w lo K p (0, D.say node)) := by
  have HS := Lib.hid (SayW.start (node := node) hW)
  have hd : decide (node ∈ D.ns) = true := by simpa using hn
  have hd2 : decide (node ∈ D.ws) = true := by simpa using hv
  have HV := Lib.hid hv
  have HF := Lib.hid hF
  have H0 := Lib.hid h0
  clear hW hn hv hF h0
  go_enter Tryz.func43, Tryz.ntmps43
  go_upto_region 0 with (fail)
  go_cut [3, 4] (fun s3 s4 wx => s4 = .nilIface ∧ ∃ b, s3 = .pointer (some ⟨b, 0, none⟩) ∧ Aside0 (SayW w wx lo K D p b node))
  case first =>
    go_wp2
    go_meet
    case rel => exact ⟨rfl, _, rfl, ⟨HS.out⟩⟩
  case rest =>
    clear HS
    obtain ⟨rfl, b, rfl, H⟩ := hcut
    obtain ⟨Aw, cw, An, cn, Ad, cd, z⟩ := H.out.desk
    have c2 := blk_cell z.blk 2
    have c1 := blk_cell z.blk 1
    simp at c2 c1
    have hbx := H.out.box
    have HC := Lib.hid (Kd.R_reads' z.rn).2.2
    have HCw := Lib.hid (Kd.R_reads' z.rw).2.2
    clear z
    obtain ⟨wx, rfl⟩ : ∃ wx, wx = wc := ⟨_, rfl⟩
    go_upto_region 1 with (fail)
    go_cut [5] (fun s5 wy => s5 = .bool false ∧ Aside0 (∃ m, wy = wx.drewN m))
    case first =>
      go_wp2
      go_quiet ((go_at_call 41; exact Calls.quiet_of_same ((contains_calls _ _ _ D.ns _ (Kd.C_drewN HC.out _)).mono fun _ _ ⟨h, k⟩ => ⟨h, k.symm⟩)))
      go_wp2
      go_meet
      case rel => exact ⟨rfl, ⟨_, rfl⟩⟩
    case rest =>
      obtain ⟨rfl, hm⟩ := hcut
      have H1 : Aside0 (SayW w wc lo K D p b node) := by
        obtain ⟨m, rfl⟩ := hm.out
        exact ⟨H.out.drewN m⟩
      clear H hm c1 c2 hbx HC HCw
      obtain ⟨wx, rfl⟩ : ∃ wx, wx = wc := ⟨_, rfl⟩
      go_upto_region 3 with (fail)
      go_cut [14] (fun s14 wy => s14 = .bool false ∧ Aside0 (∃ m, wy = wx.drewN m))
      case first =>
        obtain ⟨Aw, cw, An, cn, Ad, cd, z⟩ := H1.out.desk
        have c1 := blk_cell z.blk 1
        simp at c1
        have hbx := H1.out.box
        have HC := Lib.hid (Kd.R_reads' z.rw).2.2
        clear z
        go_wp2
        go_quiet ((go_at_call 41; exact Calls.quiet_of_same ((contains_calls _ _ _ D.ws _ (Kd.C_drewN HC.out _)).mono fun _ _ ⟨h, k⟩ => ⟨h, k.symm⟩)))
        go_wp2
        go_meet
        case rel => exact ⟨rfl, ⟨_, rfl⟩⟩
      case rest =>
        obtain ⟨rfl, hm⟩ := hcut
        have H2 : Aside0 (SayW w wc lo K D p b node) := by
          obtain ⟨m, rfl⟩ := hm.out
          exact ⟨H1.out.drewN m⟩
        clear H1 hm
        obtain ⟨wx, rfl⟩ : ∃ wx, wx = wc := ⟨_, rfl⟩
        go_upto_region 5 with (fail)
        go_cut [] (fun wy => Aside0 (IsDesk wy lo K (D.drop node) p) ∧ Aside0 (Moved w wy lo K K))
        case first =>
          obtain ⟨Aw, cw, An, cn, Ad, cd, z⟩ := H2.out.desk
          obtain ⟨ad, rfl, _⟩ := C_cell (Kd.R_reads' z.rw).2.2 (k := 0) (List.length_pos_of_mem HV.out)
          obtain ⟨g, rfl⟩ := Kd.R_head z.rw
          have c1 := blk_cell z.blk 1
          simp at c1
          have f1 := blk_frozen z.blk 1
          have Z := Lib.hid z
          have HBG := Lib.hid (show b ≠ g from fun e => H2.out.far (e ▸ (z.rw.1 g (by simp [Value.ownBlock])).1))
          clear z
          go_wp2_with (go_at_call 64; refine (deleteFunc_calls wx lo (fun k => K k ∧ k ≠ p) g cw D.ws b node Z.out.rw H2.out.box HBG.out HV.out HF.out.w9).mono ?_; rintro e w1 hp; obtain rfl := hp.1; obtain ⟨h1, h2, h3⟩ := Z.out.deleted hp; have k1 := blk_cell (h1.trans Z.out.blk) 1; have l1 := blk_frozen (h1.trans Z.out.blk) 1; simp at k1; have HD := Lib.hid h2; have HM := Lib.hid h3; clear hp h1 h2 h3)
          go_meet
          case rel => exact ⟨⟨⟨_, _, _, _, _, _, HD.out⟩⟩, ⟨H2.out.moved.trans HM.out⟩⟩
        case rest =>
          obtain ⟨H3, HM⟩ := hcut
          clear H2
          obtain ⟨Aw, cw, An, cn, Ad, cd, z⟩ := H3.out
          have z' := z
          have hne : D.dc ≠ [] := HF.out.d0 H0.out
          have hF2 : Fine (D.drop node) := ⟨HF.out.s0, HF.out.s3, Nat.le_trans (drops_len _ _) HF.out.w9, HF.out.n9, HF.out.d0, HF.out.dm⟩
          have c1 : wc.cell? ⟨p, 1, none⟩ = some (.slice Aw (drops node D.ws).length cw) := by have := blk_cell z.blk 1; simpa [Dk.drop] using this
          have c0 : wc.cell? ⟨p, 0, none⟩ = some (.int .i64 D.st) := by have := blk_cell z.blk 0; simpa [Dk.drop] using this
          have c2 : wc.cell? ⟨p, 2, none⟩ = some (.slice An D.ns.length cn) := by have := blk_cell z.blk 2; simpa [Dk.drop] using this
          have f0 := blk_frozen z.blk 0
          have f2 := blk_frozen z.blk 2
          have Z := Lib.hid z
          clear z z'
          by_cases hl : drops node D.ws = []
          · have hlen : (drops node D.ws).length = 0 := by rw [hl]; rfl
            rw [hlen] at c1
            by_cases h1 : D.st = 1
            · have HR := Lib.hid (show D.say node = (D.drop node).decide 2 by unfold Dk.say; rw [if_neg (by simp [hl]), if_pos h1]; rfl)
              rw [h1] at c0
              have HF2 := Lib.hid hF2
              have HNE := Lib.hid (show (D.drop node).dc ≠ [] from hne)
              clear hl hlen h1 hF2 hne
              go_wp2_with (go_at_call 39; refine (decide_calls H3.out HF2.out HNE.out 2).mono ?_; rintro e w1 ⟨rfl, h1⟩; have H1 := Lib.hid h1; clear h1)
              go_ret
              rw [HR.out]
              exact ⟨rfl, H1.out.then_ HM.out⟩
            · have HR := Lib.hid (show D.say node = { st := 0, ws := [], ns := [], dc := D.dc } by unfold Dk.say; rw [if_neg (by simp [hl]), if_neg h1])
              have HL := Lib.hid hl
              have h23 : D.st = 2 ∨ D.st = 3 := by have := HF.out.s0; have := HF.out.s3; have := H0.out; omega
              have hfin : Aside0 (Leaves w lo K p { st := 0, ws := [], ns := [], dc := D.dc } ((wc.setCell ⟨p, 0, none⟩ (.int .i64 0)).setCell ⟨p, 2, none⟩ (.slice none 0 0))) := by
                have z1 := Z.out.setSt 0
                have z2 := z1.setNs (A1 := none) (c1 := 0) (xs := []) (Kd.R_nil _ _ _ _ _) (by intro k hk; simp [Value.ownBlock]) (by intro k hk; simp [Value.ownBlock] at hk)
                have hm1 := moved_set Z.out Z.out.kp 0 (.int .i64 0)
                have hm2 := moved_set z1 z1.kp 2 (.slice none 0 0)
                have z3 : IsDesk ((wc.setCell ⟨p, 0, none⟩ (.int .i64 0)).setCell ⟨p, 2, none⟩ (.slice none 0 0)) lo K { st := 0, ws := [], ns := [], dc := D.dc } p := by
                  have : ({ st := 0, ws := [], ns := [], dc := D.dc } : Dk) = { st := 0, ws := drops node D.ws, ns := [], dc := D.dc } := by rw [hl]
                  rw [this]
                  exact ⟨_, _, _, _, _, _, z2⟩
                exact ⟨K, z3, (HM.out.trans hm1).trans hm2⟩
              clear hl hlen h1 hF2 hne Z
              rcases h23 with h2 | h2
              all_goals
                rw [h2] at c0
                clear h2
                go_wp2
                go_ret
                rw [HR.out]
                exact ⟨rfl, hfin.out⟩
          · have hl0 : (drops node D.ws).length > 0 := List.length_pos_iff.2 hl
            have hl1 : ((drops node D.ws).length : Int) > 0 := by omega
            have HR := Lib.hid (show D.say node = D.drop node from if_pos hl)
            clear hl
            go_wp2
            go_ret
            rw [HR.out]
            exact ⟨rfl, K, H3.out, HM.out⟩
theorem say_calls (hW : IsDesk w lo K D p) (hF : Fine D) (node : Int) (h0 : D.st ≠ 0) :
    Calls Tryz.prog 43 #[.pointer (some ⟨p, 0, none⟩), .int .i64 node] w (Says w lo K p (D.sayR node)) := by
  unfold Dk.sayR
  by_cases h1 : node ∈ D.ns
  · rw [if_neg (by simpa using h1)]
    by_cases h2 : node ∈ D.ws
    · rw [if_neg (by simpa using h2)]
      exact say_goes hW hF node h1 h2 h0
    · rw [if_pos h2]
      exact say_again hW node h1 h2
  · rw [if_pos h1]
    exact say_none hW node h1
end
end Go.Proofs.YtadaoplmicghcaaGreatDoor.Cm
namespace Go.Proofs.YtadaoplmicghcaaGreatDoor.Cm
open Go.RowKit Go.Proofs.YtadaoplmicghcaaGreatDoorW.PrintWords Go.Proofs.YtadaoplmicghcaaGreatDoorW.PrintLast Go.Proofs.YtadaoplmicghcaaGreatDoorW.PrintMore
set_option linter.unusedVariables false
set_option linter.unusedSimpArgs false
theorem Says.lits {w w1 : World} {lo : Nat} {K : Nat → Prop} {p : Nat} {D : Dk} {r : Int × Dk} {o : Obj} {e : Ending} (k : Says (w.alloc o) lo K p r e w1) (h : IsDesk w lo K D p) : Says w lo K p r e w1 := ⟨k.1, k.2.lits h⟩
section
variable {w : World} {lo p : Nat} {K : Nat → Prop} {D : Dk}
set_option maxRecDepth 100000 in
theorem ready_calls (hW : IsDesk w lo K D p) (hF : Fine D) (i node : Int) :
    Calls Tryz.prog 16 #[.pointer (some ⟨p, 0, none⟩), .int .i64 i, .int .i64 node] w (Says w lo K p (D.readyR i node)) := by
  have HW := Lib.hid hW
  have HF := Lib.hid hF
  have hlit := Lib.hid (IsDesk.stay hW (below_alloc (Below.refl _ _) (.cells #[.int .i64 1] 46)))
  by_cases h : D.st = 1 ∧ i = D.dc.length
  · have hb : (i == (D.dc.length : Int) && decide (D.st ∈ [(1 : Int)])) = true := by simp [h.1, h.2]
    have HB := Lib.hid hb
    have HR := Lib.hid (show D.readyR i node = D.sayR node from if_pos h)
    have H0 := Lib.hid (show D.st ≠ 0 by omega)
    clear hb hW hF h
    go_enter Tryz.func16, Tryz.ntmps16
    go_wp2_with (first
      | (go_at_call 42; refine (now_calls hlit.out _ _ _ [1] (lit_at _ _ [1] (by simp) (by simp) rfl rfl)).mono ?_; rintro e w' ⟨rfl, rfl⟩; rw [HB.out])
      | (go_at_call 43; refine (say_calls hlit.out HF.out node H0.out).mono ?_; intro e w1 h1; obtain rfl := h1.1; have H1 := Lib.hid h1; clear h1))
    go_ret
    rw [HR.out]
    exact H1.out.lits HW.out
  · have hb : (i == (D.dc.length : Int) && decide (D.st ∈ [(1 : Int)])) = false := by
      rw [Bool.and_eq_false_iff]
      by_cases h1 : i = D.dc.length
      · right; simp; omega
      · left; simpa using h1
    have HB := Lib.hid hb
    have HR := Lib.hid (show D.readyR i node = (21, D) from if_neg h)
    clear hb hW hF h
    go_enter Tryz.func16, Tryz.ntmps16
    go_wp2_with (first
      | (go_at_call 42; refine (now_calls hlit.out _ _ _ [1] (lit_at _ _ [1] (by simp) (by simp) rfl rfl)).mono ?_; rintro e w' ⟨rfl, rfl⟩; rw [HB.out]))
    go_ret
    rw [HR.out]
    exact ⟨rfl, (Leaves.refl hlit.out).lits HW.out⟩
set_option maxRecDepth 100000 in
theorem done_calls (hW : IsDesk w lo K D p) (hF : Fine D) (i node : Int) :
    Calls Tryz.prog 18 #[.pointer (some ⟨p, 0, none⟩), .int .i64 i, .int .i64 node] w (Says w lo K p (D.doneR i node)) := by
  have HW := Lib.hid hW
  have HF := Lib.hid hF
  have hlit := Lib.hid (IsDesk.stay hW (below_alloc (Below.refl _ _) (.cells #[.int .i64 2, .int .i64 3] 46)))
  by_cases h : (D.st = 2 ∨ D.st = 3) ∧ i = D.dc.length
  · have hb : (i == (D.dc.length : Int) && decide (D.st ∈ [(2 : Int), 3])) = true := by simp [h.1, h.2]
    have HB := Lib.hid hb
    have HR := Lib.hid (show D.doneR i node = D.sayR node from if_pos h)
    have H0 := Lib.hid (show D.st ≠ 0 by omega)
    clear hb hW hF h
    go_enter Tryz.func18, Tryz.ntmps18
    go_wp2_with (first
      | (go_at_call 42; refine (now_calls hlit.out _ _ _ [2, 3] (lit_at _ _ [2, 3] (by simp) (by simp) rfl rfl)).mono ?_; rintro e w' ⟨rfl, rfl⟩; rw [HB.out])
      | (go_at_call 43; refine (say_calls hlit.out HF.out node H0.out).mono ?_; intro e w1 h1; obtain rfl := h1.1; have H1 := Lib.hid h1; clear h1))
    go_ret
    rw [HR.out]
    exact H1.out.lits HW.out
  · have hb : (i == (D.dc.length : Int) && decide (D.st ∈ [(2 : Int), 3])) = false := by
      rw [Bool.and_eq_false_iff]
      by_cases h1 : i = D.dc.length
      · right; simp; omega
      · left; simpa using h1
    have HB := Lib.hid hb
    have HR := Lib.hid (show D.doneR i node = (21, D) from if_neg h)
    clear hb hW hF h
    go_enter Tryz.func18, Tryz.ntmps18
    go_wp2_with (first
      | (go_at_call 42; refine (now_calls hlit.out _ _ _ [2, 3] (lit_at _ _ [2, 3] (by simp) (by simp) rfl rfl)).mono ?_; rintro e w' ⟨rfl, rfl⟩; rw [HB.out]))
    go_ret
    rw [HR.out]
    exact ⟨rfl, (Leaves.refl hlit.out).lits HW.out⟩
set_option maxRecDepth 100000 in
theorem recover_calls (hW : IsDesk w lo K D p) (hF : Fine D) :
    Calls Tryz.prog 11 #[.pointer (some ⟨p, 0, none⟩)] w fun e w' => e = .returned (.tuple #[]) ∧ Leaves w lo K p D.recoverR w' := by
  have HW := Lib.hid hW
  have HF := Lib.hid hF
  obtain ⟨_, _, _, _, _, _, z⟩ := hW
  have c0 := blk_cell z.blk 0
  simp at c0
  clear z
  by_cases h : D.st = 1
  · have HR := Lib.hid (show D.recoverR = D.decide 3 from if_pos h)
    have HD := Lib.hid (hF.d0 (by omega))
    rw [h] at c0
    clear hF h
    go_enter Tryz.func11, Tryz.ntmps11
    go_wp2_with (first
      | (go_at_call 39; refine (decide_calls HW.out HF.out HD.out 3).mono ?_; rintro e w1 ⟨rfl, h1⟩; have H1 := Lib.hid h1; clear h1))
    go_end0
    rw [HR.out]
    exact ⟨rfl, H1.out⟩
  · have HR := Lib.hid (show D.recoverR = D from if_neg h)
    have hb : (D.st == 1) = false := by simpa using h
    clear hF h
    go_enter Tryz.func11, Tryz.ntmps11
    go_wp2
    go_end0
    rw [HR.out]
    exact ⟨rfl, Leaves.refl HW.out⟩
end
end Go.Proofs.YtadaoplmicghcaaGreatDoor.Cm
namespace Go.Proofs.YtadaoplmicghcaaGreatDoor.Cm
open Go.RowKit Go.Proofs.YtadaoplmicghcaaGreatDoorW.PrintWords Go.Proofs.YtadaoplmicghcaaGreatDoorW.PrintLast Go.Proofs.YtadaoplmicghcaaGreatDoorW.PrintMore
set_option linter.unusedVariables false
set_option linter.unusedSimpArgs false

theorem infoS : (Tryz.prog.info? 46).map (fun i => (i.zero, i.size, i.bytes)) = some (some (.int .i64 0), 1, 8) := by kernel_rfl
def okB (xs : List Int) (j : Nat) : Prop := -1 ≤ rd xs j ∧ rd xs j < 8 ∧ (0 < j → rd xs (j - 1 : Nat) < rd xs j)
def Up (xs : List Int) : Prop := ∀ j, j < xs.length → okB xs j
theorem Up.lt {xs : List Int} (h : Up xs) : ∀ i j, i < j → j < xs.length → rd xs i < rd xs j := by
  intro i j hij
  induction j with
  | zero => omega
  | succ j ih =>
    intro hj
    have h1 := (h (j + 1) hj).2.2 (by omega)
    simp only [Nat.add_sub_cancel] at h1
    rcases Nat.lt_or_ge i j with hlt | hge
    · have := ih hlt (by omega); omega
    · have : i = j := by omega
      subst this; exact h1
theorem Up.low {xs : List Int} (h : Up xs) : ∀ j, j < xs.length → (j : Int) - 1 ≤ rd xs j := by
  intro j
  induction j with
  | zero => intro hj; have := (h 0 hj).1; omega
  | succ j ih =>
    intro hj
    have := ih (by omega)
    have := h.lt j (j + 1) (by omega) hj
    omega
theorem Up.nine {xs : List Int} (h : Up xs) : xs.length ≤ 9 := by
  rcases Nat.lt_or_ge 0 xs.length with h0 | h0
  · have := h.low (xs.length - 1) (by omega)
    have := (h (xs.length - 1) (by omega)).2.1
    omega
  · omega
theorem Up.nodup {xs : List Int} (h : Up xs) : xs.Nodup := by
  rw [List.nodup_iff_pairwise_ne, List.pairwise_iff_getElem]
  intro i j hi hj hij e
  have := h.lt i j hij hj
  rw [rd_get xs i hi, rd_get xs j hj] at this
  omega
open Classical in
noncomputable def Dk.beginR (D : Dk) (xs : List Int) : Int × Int × Dk := if D.st ≠ 0 then (0, 21, D) else if xs = [] ∨ ¬ Up xs then (0, 1, D) else ((D.dc.length : Int) + 1, 0, D.begin_ xs)
def BegPost (w : World) (lo : Nat) (K : Nat → Prop) (p : Nat) (r : Int × Int × Dk) (e : Ending) (w' : World) : Prop := e = .returned (.tuple #[.int .i64 r.1, errV r.2.1]) ∧ Leaves w lo K p r.2.2 w'
theorem Dk.beginR_busy {D : Dk} {xs : List Int} (h : D.st ≠ 0) : D.beginR xs = (0, 21, D) := if_pos h
theorem Dk.beginR_arg {D : Dk} {xs : List Int} (h : D.st = 0) (h2 : xs = [] ∨ ¬ Up xs) : D.beginR xs = (0, 1, D) := by unfold Dk.beginR; rw [if_neg (by simpa using h), if_pos h2]
theorem Dk.beginR_ok {D : Dk} {xs : List Int} (h : D.st = 0) (h2 : xs ≠ []) (h3 : Up xs) : D.beginR xs = ((D.dc.length : Int) + 1, 0, D.begin_ xs) := by unfold Dk.beginR; rw [if_neg (by simpa using h), if_neg (by rintro (h4 | h4); exact h2 h4; exact h4 h3)]
theorem BegPost.no {w : World} {lo p : Nat} {K : Nat → Prop} {D : Dk} {xs : List Int} {k : Nat} (hW : IsDesk w lo K D p) (h0 : D.st = 0) (hk : k < xs.length) (h : ¬ okB xs k) : BegPost w lo K p (D.beginR xs) (.returned (.tuple #[.int .i64 0, .iface 28 (.int .i64 1)])) w := by
  rw [Dk.beginR_arg h0 (.inr fun hu => h (hu k hk))]
  exact ⟨rfl, Leaves.refl hW⟩

theorem DeskAt.begun0 {w w1 w2 : World} {lo p cw cn cd k1 k2 : Nat} {K : Nat → Prop} {D : Dk} {Aw An Ad A1 A2 : Option Addr} {xs : List Int} (z : DeskAt w lo K D p Aw cw An cn Ad cd)
    (hb : Below w.heap.size w w1) (hb2 : Below w1.heap.size w1 w2) (hv : (Kd.int .i64).R 3 w1 w.heap.size (fun _ => True) (.slice A1 xs.length k1) xs) (hv2 : (Kd.int .i64).R 3 w2 w1.heap.size (fun _ => True) (.slice A2 xs.length k2) xs) :
    ∃ K', DeskAt ((w2.setCell ⟨p, 2, none⟩ (.slice A1 xs.length k1)).setCell ⟨p, 1, none⟩ (.slice A2 xs.length k2)) lo K' { st := D.st, ws := xs, ns := xs, dc := D.dc } p A2 k2 A1 k1 Ad cd ∧ Moved w ((w2.setCell ⟨p, 2, none⟩ (.slice A1 xs.length k1)).setCell ⟨p, 1, none⟩ (.slice A2 xs.length k2)) lo K K' := by
  have hB : Below w.heap.size w w2 := hb.trans (hb2.mono hb.size)
  have z2 := z.below hB
  have hp : p < w.heap.size := (z.kb p z.kp).2
  have hv1 := Kd.R_below hv hb2
  have r1 := row_in (b := 0) (p := p) (K := K) hv1 z.low hp
  have r2 := row_in (b := 0) (p := p) (K := K) (Kd.R_lower hv2 hb.size) z.low hp
  have hn1 : ∀ k, (Value.slice A1 xs.length k1).ownBlock = some k → (Value.slice Aw D.ws.length cw).ownBlock ≠ some k := fun k h => apart_new z.rw hv1 (Nat.le_refl _) k h
  have hn2 : ∀ k, (Value.slice A1 xs.length k1).ownBlock = some k → (Value.slice Ad D.dc.length cd).ownBlock ≠ some k := fun k h => apart_new z.rd hv1 (Nat.le_refl _) k h
  have z3 := z2.setNs (r1) (fun k h1 h2 => hn1 k h2 h1) hn2
  have hm3 := moved_set z2 z2.kp 2 (.slice A1 xs.length k1)
  have z4 := z3.setWs (Kd.R_far r2 (p := ⟨p, 2, none⟩) (fun k hk => hk.2) _) (fun k h => apart_new hv hv2 (Nat.le_refl _) k h) (fun k h => apart_new z.rd hv2 hb.size k h)
  have hm4 := moved_set z3 z3.kp 1 (.slice A2 xs.length k2)
  exact ⟨_, z4, ((Moved.of_below hB z.low K).trans hm3).trans hm4⟩
theorem DeskAt.appended {W w1 : World} {lo p cw cn cd c1 : Nat} {K ok : Nat → Prop} {D : Dk} {Aw An Ad A1 : Option Addr} {xs : List Int} (z : DeskAt W lo K D p Aw cw An cn Ad cd)
    (hr : (Kd.int .i64).R 46 w1 lo ok (.slice A1 xs.length c1) xs) (hb : Below lo W w1) (hg : W.grownBy w1 (Value.slice Ad D.dc.length cd).ownBlock)
    (hat : (Value.slice A1 xs.length c1).ownBlock = (Value.slice Ad D.dc.length cd).ownBlock ∨ ∃ b, (Value.slice A1 xs.length c1).ownBlock = some b ∧ W.heap.size ≤ b) :
    w1.heap[p]? = W.heap[p]? ∧ DeskAt (w1.setCell ⟨p, 3, none⟩ (.slice A1 xs.length c1)) lo (Kx K W w1) { D with dc := xs } p Aw cw An cn A1 c1 ∧ Moved W (w1.setCell ⟨p, 3, none⟩ (.slice A1 xs.length c1)) lo K (Kx K W w1) := by
  have hpd : ∀ k, (Value.slice Ad D.dc.length cd).ownBlock = some k → K k ∧ k ≠ p := fun k hk => z.rd.1 k hk
  have hp : w1.heap[p]? = W.heap[p]? := hg.block p (z.kb p z.kp).2 (fun e => (hpd p e.symm).2 rfl)
  have hkx : ∀ k, Kx K W w1 k → lo ≤ k ∧ k < w1.heap.size := by
    intro k hk
    have := hg.size
    have := z.low
    rcases hk with hk | hk
    · have := z.kb k hk; omega
    · omega
  have rw1 := Kd.R_grown2 z.rw rfl hg (fun k hk e => z.wd k e.symm hk)
  have rn1 := Kd.R_grown2 z.rn rfl hg (fun k hk e => z.nd k e.symm hk)
  have hnew : ∀ k, (Value.slice A1 xs.length c1).ownBlock = some k → Kx K W w1 k ∧ k ≠ p := by
    intro k hk
    rcases hat with h | ⟨b, h, hb2⟩
    · rw [hk] at h
      have := hpd k h.symm
      exact ⟨.inl this.1, this.2⟩
    · rw [hk] at h
      cases h
      have := Kd.R_lt hr k hk
      have := (z.kb p z.kp).2
      exact ⟨.inr ⟨hb2, by omega⟩, by omega⟩
  have rd1 : (Kd.int .i64).R 46 w1 lo (fun k => Kx K W w1 k ∧ k ≠ p) (.slice A1 xs.length c1) xs := Kd.R_mono (Kd.R_tight2 (d := Kd.int .i64) rfl hr) (fun k hk => hnew k hk.1.symm)
  refine ⟨hp, ⟨blk_set (hp.trans z.blk) 3 _, Kd.R_far (Kd.R_mono rw1 fun k h => ⟨.inl h.1, h.2⟩) (fun k hk => hk.2) _, Kd.R_far (Kd.R_mono rn1 fun k h => ⟨.inl h.1, h.2⟩) (fun k hk => hk.2) _, Kd.R_far rd1 (fun k hk => hk.2) _, z.wn, ?_, ?_, .inl z.kp, fun k hk => by rw [set_size]; exact hkx k hk⟩, ?_⟩
  · intro k h1 h2
    rcases hat with h | ⟨b, h, hb2⟩
    · exact z.wd k h1 (h ▸ h2)
    · rw [h] at h2
      cases h2
      have := Kd.R_lt z.rw _ h1
      omega
  · intro k h1 h2
    rcases hat with h | ⟨b, h, hb2⟩
    · exact z.nd k h1 (h ▸ h2)
    · rw [h] at h2
      cases h2
      have := Kd.R_lt z.rn _ h1
      omega
  · refine ⟨hb.setCell (z.kb p z.kp).1 _, ⟨by rw [set_size]; exact hg.size, fun k hk hn => ?_⟩, fun k hk => hk.elim .inl fun h => .inr h.1⟩
    rw [Below.heap_setCell _ _ _ _ (fun (e : k = p) => hn (e ▸ z.kp))]
    exact hg.block k hk (fun e => hn (hpd k e.symm).1)
section
variable {w : World} {lo p : Nat} {K : Nat → Prop} {D : Dk}
set_option maxRecDepth 100000 in
theorem begin_busy (hW : IsDesk w lo K D p) (A : Option Addr) (c n : Nat) (h0 : D.st ≠ 0) :
    Calls Tryz.prog 9 #[.pointer (some ⟨p, 0, none⟩), .slice A n c] w (BegPost w lo K p (0, 21, D)) := by
  have HW := Lib.hid hW
  obtain ⟨_, _, _, _, _, _, z⟩ := hW
  have c0 := blk_cell z.blk 0
  simp at c0
  have hb : (D.st != 0) = true := by simpa using h0
  clear z h0
  go_enter Tryz.func9, Tryz.ntmps9
  go_wp2
  go_ret2
  exact ⟨rfl, Leaves.refl HW.out⟩
set_option maxRecDepth 100000 in
theorem begin_empty (hW : IsDesk w lo K D p) (A : Option Addr) (c : Nat) (h0 : D.st = 0) :
    Calls Tryz.prog 9 #[.pointer (some ⟨p, 0, none⟩), .slice A 0 c] w (BegPost w lo K p (0, 1, D)) := by
  have HW := Lib.hid hW
  obtain ⟨_, _, _, _, _, _, z⟩ := hW
  have c0 := blk_cell z.blk 0
  simp [h0] at c0
  clear z h0
  go_enter Tryz.func9, Tryz.ntmps9
  go_wp2
  go_ret2
  exact ⟨rfl, Leaves.refl HW.out⟩
set_option maxRecDepth 100000 in
set_option maxHeartbeats 2000000 in
theorem begin_some (hW : IsDesk w lo K D p) (hF : Fine D) (hd : D.dc.length < 1000) (A : Option Addr) (c : Nat) (xs : List Int) (hr : (Kd.int .i64).C w A xs.length xs) (hl : xs.length * 8 ≤ 140737488351232) (h0 : D.st = 0) (hx : xs ≠ []) :
    Calls Tryz.prog 9 #[.pointer (some ⟨p, 0, none⟩), .slice A xs.length c] w (BegPost w lo K p (D.beginR xs)) := by
  have HW := Lib.hid hW
  have HR := Lib.hid hr
  have HL := Lib.hid hl
  have H0 := Lib.hid h0
  have HX := Lib.hid hx
  have HD := Lib.hid hd
  have hm : (xs.length : Int) ≤ 9223372036854775807 := by have := hr.2.1; omega
  have hlen : (1 : Int) ≤ xs.length := by have := List.length_pos_iff.2 hx; omega
  have hb : ((xs.length : Int) == 0) = false := by rw [beq_eq_false_iff_ne]; omega
  obtain ⟨_, _, _, _, _, _, z⟩ := hW
  have c0 := blk_cell z.blk 0
  simp [h0] at c0
  clear z h0 hx hr hl hF hd
  go_enter Tryz.func9, Tryz.ntmps9
  go_wp2
  clear c0 hb
  go_loop [26] (fun v => ∃ k : Nat, k ≤ xs.length ∧ v = .int .i64 k ∧ Hid (∀ j, j < k → okB xs j)) (fun v => xs.length - (intOf v).toNat)
  case atStart => exact ⟨0, Nat.zero_le _, rfl, fun j hj => by omega⟩
  case round =>
    obtain ⟨k, hk, rfl, hok⟩ := hrel
    by_cases hlt : k < xs.length
    · obtain ⟨ad, rfl, hcell⟩ := C_cell HR.out hlt
      have HLT := Lib.hid hlt
      have k0 : (0 : Int) ≤ k := by omega
      have k1 : (k : Int) < xs.length := by omega
      obtain ⟨n, hn⟩ : ∃ n, n = rd xs k := ⟨_, rfl⟩
      rw [← hn] at hcell
      have HN := Lib.hid hn
      clear hlt hn
      by_cases h0 : n < -1
      · have HF := Lib.hid (show ¬ okB xs k by unfold okB; rw [← HN.out]; omega)
        go_wp2
        go_ret2
        exact BegPost.no HW.out H0.out HLT.out HF.out
      · by_cases h8 : 8 ≤ n
        · have HF := Lib.hid (show ¬ okB xs k by unfold okB; rw [← HN.out]; omega)
          go_wp2
          go_ret2
          exact BegPost.no HW.out H0.out HLT.out HF.out
        · by_cases hk0 : k = 0
          · have HF := Lib.hid (show okB xs k by unfold okB; rw [← HN.out]; omega)
            have kz : (k : Int) ≤ 0 := by omega
            clear hk0
            go_wp2
            go_round
            case rel =>
              refine ⟨k + 1, by have := HLT.out; omega, by go_num, ?_⟩
              intro j hj
              obtain rfl : j = k := by omega
              exact HF.out
            case measure => simp [intOf]; omega
          · have hlt2 : k - 1 < xs.length := by have := HLT.out; omega
            obtain ⟨_, e, hcell2⟩ := C_cell HR.out hlt2
            cases e
            have kp : (0 : Int) < k := by omega
            obtain ⟨m, hm2⟩ : ∃ m, m = rd xs (k - 1 : Nat) := ⟨_, rfl⟩
            rw [← hm2] at hcell2
            have HM := Lib.hid hm2
            have hK : ((k : Int) - 1).toNat = k - 1 := by omega
            have HK0 := Lib.hid hk0
            clear hm2 hlt2 hk0
            by_cases hp : n ≤ m
            · have HF := Lib.hid (show ¬ okB xs k by unfold okB; rw [← HN.out, ← HM.out]; omega)
              go_wp2
              go_ret2
              exact BegPost.no HW.out H0.out HLT.out HF.out
            · have HF := Lib.hid (show okB xs k by unfold okB; rw [← HN.out, ← HM.out]; omega)
              go_wp2
              go_round
              case rel =>
                refine ⟨k + 1, by have := HLT.out; omega, by go_num, ?_⟩
                intro j hj
                by_cases e : j = k
                · subst e; exact HF.out
                · exact hok.out j (by omega)
              case measure => simp [intOf]; omega
    · have k1 : ¬ (k : Int) < xs.length := by omega
      have HUP := Lib.hid (show Up xs by intro j hj; exact hok.out j (by omega))
      clear hlt hok
      obtain ⟨Aw, cw, An, cn, Ad, cd, z⟩ := HW.out
      have Z := Lib.hid z
      clear z
      go_upto_region 13 with (fail)
      go_cut [4, 5] (fun _ _ wy => ∃ K1 A1 k1 A2 k2, Aside0 (DeskAt wy lo K1 { st := D.st, ws := xs, ns := xs, dc := D.dc } p A2 k2 A1 k1 Ad cd) ∧ Aside0 (Moved w wy lo K K1))
      case first =>
        go_wp2_with (first
          | (go_at_call 38; refine (clone_calls _ _ _ xs (Kd.C_below HR.out HB1.out) HL.out).mono ?_; rintro e w2 ⟨v2, rfl, hv2, hb2⟩; obtain ⟨A2, k2, rfl⟩ := Kd.R_slice hv2; obtain ⟨K', z4, hm4⟩ := Z.out.begun0 HB1.out hb2 HV1.out hv2; have zz := Z.out.below (HB1.out.trans (hb2.mono HB1.out.size)); have c1 := blk_cell zz.blk 1; have c2 := blk_cell zz.blk 2; simp at c1 c2; have f1 := blk_frozen zz.blk 1; have f2 := blk_frozen zz.blk 2; have Z4 := Lib.hid z4; have M4 := Lib.hid hm4; clear hv2 hb2 z4 hm4 zz)
          | (go_at_call 38; refine (clone_calls _ _ _ xs HR.out HL.out).mono ?_; rintro e w1 ⟨v1, rfl, hv1, hb1⟩; obtain ⟨A1, k1, rfl⟩ := Kd.R_slice hv1; have HV1 := Aside0.mk hv1; have HB1 := Aside0.mk hb1; clear hv1 hb1))
        go_meet
        case rel => exact ⟨_, _, _, _, _, ⟨Z4.out⟩, ⟨M4.out⟩⟩
      case rest =>
        obtain ⟨K1, A1, k1, A2, k2, H1, M1⟩ := hcut
        clear Z
        obtain ⟨wx, rfl⟩ : ∃ wx, wx = wc := ⟨_, rfl⟩
        have c0 := blk_cell H1.out.blk 0
        simp at c0
        have f0 := blk_frozen H1.out.blk 0
        go_upto_region 14 with (fail)
        go_cut [] (fun wy => Aside0 (DeskAt wy lo K1 { st := 1, ws := xs, ns := xs, dc := D.dc } p A2 k2 A1 k1 Ad cd) ∧ Aside0 (Moved w wy lo K K1))
        case first =>
          go_wp2
          go_meet
          case rel => exact ⟨⟨H1.out.setSt 1⟩, ⟨M1.out.trans (moved_set H1.out H1.out.kp 0 _)⟩⟩
        case rest =>
          obtain ⟨H2, M2⟩ := hcut
          clear H1 M1 c0 f0
          have c3 := blk_cell H2.out.blk 3
          simp at c3
          have HLT : Aside0 (lo ≤ wc.heap.size) := ⟨H2.out.low⟩
          go_wp2_with (first
            | (at_builtin; refine Kd.R_append_rows (Kd.int .i64) (w0 := wc.alloc (.cells #[.int .i64 0] 46)) lo rfl _ _ _ 46 (.int .i64 0) 8 rfl Tryz.underlying96 infoS rfl (by decide) (by omega) (.slice Ad D.dc.length cd) D.dc [0] _ 1 1 (fun k => (K1 k ∧ k ≠ p) ∨ wc.heap.size + 1 ≤ k) (fun _ => False) rfl rfl (Kd.R_mono (Kd.R_alloc H2.out.rd _) fun k hk => .inl hk) (lit_at _ _ [0] (by simp) (by simp) rfl rfl) (fun _ _ h => h) (fun _ hk => hk.elim) (fun _ hk => .inr (by simpa using hk)) (Below.refl _ _) (by have := HLT.out; simp; omega) (by have := HD.out; simp; omega) ?_; intro v1 w1 hr1 hb1 hg1 hat; obtain ⟨L, hL⟩ : ∃ L, L = D.dc ++ [0] := ⟨_, rfl⟩; rw [← hL] at hr1; obtain ⟨A3, c3, rfl⟩ := Kd.R_slice hr1; have z3 := H2.out.stay (below_alloc (Below.refl _ _) (.cells #[.int .i64 0] 46)); obtain ⟨h1, z4, m4⟩ := z3.appended hr1 hb1 hg1 hat; have k3 := blk_cell (h1.trans z3.blk) 3; have l3 := blk_frozen (h1.trans z3.blk) 3; simp at k3; have Z4 := Lib.hid z4; have M3 := Lib.hid (show Moved wc (wc.alloc (.cells #[.int .i64 0] 46)) lo K1 K1 from ⟨(below_alloc (Below.refl _ _) _).mono H2.out.low, Kept.of_below (below_alloc (Below.refl _ _) _) _, fun k hk => .inl hk⟩); have M4 := Lib.hid m4; have HL4 := Lib.hid hL; clear hr1 hb1 hg1 hat hL z3 z4 m4 h1))
          go_ret2
          rw [Dk.beginR_ok H0.out HX.out HUP.out]
          have e : L.length = D.dc.length + 1 := by rw [HL4.out]; simp
          refine ⟨?_, ?_⟩
          · rw [e]; rfl
          · have e2 : D.begin_ xs = { st := 1, ws := xs, ns := xs, dc := L } := by rw [HL4.out]; rfl
            rw [e2]
            exact ⟨_, ⟨_, _, _, _, _, _, Z4.out⟩, (M2.out.trans M3.out).trans M4.out⟩
theorem begin_calls (hW : IsDesk w lo K D p) (hF : Fine D) (hd : D.dc.length < 1000) (A : Option Addr) (c : Nat) (xs : List Int) (hr : (Kd.int .i64).C w A xs.length xs) (hl : xs.length * 8 ≤ 140737488351232) :
    Calls Tryz.prog 9 #[.pointer (some ⟨p, 0, none⟩), .slice A xs.length c] w (BegPost w lo K p (D.beginR xs)) := by
  by_cases h0 : D.st = 0
  · by_cases hx : xs = []
    · rw [Dk.beginR_arg h0 (.inl hx), hx]
      exact begin_empty hW A c h0
    · exact begin_some hW hF hd A c xs hr hl h0 hx
  · rw [Dk.beginR_busy h0]
    exact begin_busy hW A c _ h0
theorem Fine.beginR (hF : Fine D) (hd : D.dc.length < 1000) (xs : List Int) : Fine (D.beginR xs).2.2 := by
  by_cases h0 : D.st = 0
  · by_cases hx : xs = [] ∨ ¬ Up xs
    · rw [Dk.beginR_arg h0 hx]; exact hF
    · rw [not_or, Classical.not_not] at hx
      rw [Dk.beginR_ok h0 hx.1 hx.2]
      exact hF.begin_ hx.2.nine hd
  · rw [Dk.beginR_busy h0]; exact hF
theorem Fine.sayR (hF : Fine D) (node : Int) : Fine (D.sayR node).2 := by
  unfold Dk.sayR
  split
  · exact hF
  · split
    · exact hF
    · exact hF.say node
theorem Fine.readyR (hF : Fine D) (i node : Int) : Fine (D.readyR i node).2 := by
  unfold Dk.readyR
  split
  · exact hF.sayR node
  · exact hF
theorem Fine.doneR (hF : Fine D) (i node : Int) : Fine (D.doneR i node).2 := by
  unfold Dk.doneR
  split
  · exact hF.sayR node
  · exact hF
theorem Fine.cancelR (hF : Fine D) (i : Int) : Fine (D.cancelR i).2 := by
  unfold Dk.cancelR
  split
  · rename_i h
    exact hF.decide (by omega) (by omega) (hF.d0 (by omega))
  · exact hF
theorem Fine.recoverR (hF : Fine D) : Fine D.recoverR := by
  unfold Dk.recoverR
  split
  · rename_i h
    exact hF.decide (by omega) (by omega) (hF.d0 (by omega))
  · exact hF
end
end Go.Proofs.YtadaoplmicghcaaGreatDoor.Cm
