/- slices.IndexFunc and slices.DeleteFunc at []int, handed the closure of say: which number is the node. -/
import Derived.Test.YtmhfigkdeeldnaaDoorContains
import Derived.Lib.SliceRun
namespace Go.Proofs.YtmhfigkdeeldnaaDoor
open Go.RowKit Go.Proofs.YtmhfigkdeeldnaaDoorW.PrintWords Go.Proofs.YtmhfigkdeeldnaaDoorW.PrintLast Go.Proofs.YtmhfigkdeeldnaaDoorW.PrintMore
set_option linter.unusedVariables false
set_option linter.unusedSimpArgs false

theorem zeroInt (w : World) : (zeroValue 3).run Tryd.prog w = .ok (.int .i64 0) w := by kernel_rfl
set_option maxRecDepth 100000 in
theorem say1_calls (w : World) (b : Nat) (n node : Int) (hb : w.cell? ⟨b, 0, none⟩ = some (.int .i64 node)) :
    Calls Tryd.prog 42 #[.int .i64 n, .pointer (some ⟨b, 0, none⟩)] w fun e w' => e = .returned (.bool (n == node)) ∧ w = w' := by
  go_enter Tryd.func42, Tryd.ntmps42
  go_wp2
  go_ret
  exact ⟨rfl, rfl⟩

set_option maxRecDepth 100000 in
theorem indexFunc_calls (w : World) (A : Option Addr) (c : Nat) (xs : List Int) (b : Nat) (node : Int) (hr : (Kd.int .i64).C w A xs.length xs) (hb : w.cell? ⟨b, 0, none⟩ = some (.int .i64 node)) :
    Calls Tryd.prog 49 #[.slice A xs.length c, .func (Fn.func 42) #[] #[.pointer (some ⟨b, 0, none⟩)]] w fun e w' => e = .returned (.int .i64 (idx xs node)) ∧ w = w' := by
  have HR := Lib.hid hr
  have hm : (xs.length : Int) ≤ 9223372036854775807 := by have := hr.2.1; omega
  clear hr
  have HB := Lib.hid hb
  clear hb
  go_enter Tryd.func49, Tryd.ntmps49
  go_wp2
  go_loop [8] (fun v => ∃ k : Nat, k ≤ xs.length ∧ v = .int .i64 k ∧ Hid (node ∉ xs.take k)) (fun v => xs.length - (intOf v).toNat)
  case atStart => exact ⟨0, Nat.zero_le _, rfl, by unfold Hid; simp⟩
  case round =>
    obtain ⟨k, hk, rfl, hno⟩ := hrel
    by_cases hlt : k < xs.length
    · obtain ⟨ad, rfl, hcell⟩ := C_cell HR.out hlt
      have HL := Lib.hid hlt
      have k0 : (0 : Int) ≤ k := by omega
      have k1 : (k : Int) < xs.length := by omega
      by_cases he : node = rd xs k
      · have hb : (rd xs k == node) = true := beq_iff_eq.2 he.symm
        have HE := Lib.hid he
        clear he hlt
        go_wp2_with (go_at_call 42; refine (say1_calls _ b _ node HB.out).mono ?_; rintro e w' ⟨rfl, rfl⟩)
        go_ret
        refine ⟨?_, rfl⟩
        have h1 := hno.out
        rw [HE.out] at h1 ⊢
        rw [idx_hit HL.out h1]
        rfl
      · have hb : (rd xs k == node) = false := beq_eq_false_iff_ne.2 (fun e => he e.symm)
        have HE := Lib.hid he
        clear he hlt
        go_wp2_with (go_at_call 42; refine (say1_calls _ b _ node HB.out).mono ?_; rintro e w' ⟨rfl, rfl⟩)
        go_round
        case rel =>
          refine ⟨k + 1, by omega, by go_num, ?_⟩
          unfold Hid
          rw [take_rd _ _ HL.out, List.mem_append]
          rintro (h | h)
          · exact hno.out h
          · simp at h; exact HE.out h
        case measure => simp [intOf]; omega
    · have k1 : ¬ (k : Int) < xs.length := by omega
      have HK := Lib.hid (show k = xs.length by omega)
      clear hlt
      go_wp2
      go_ret
      have h1 := hno.out
      rw [HK.out, List.take_length] at h1
      rw [idx_miss h1]
      exact ⟨rfl, rfl⟩

theorem idx_spec {xs : List Int} {n : Int} (h : n ∈ xs) : ∃ k, k < xs.length ∧ idx xs n = (k : Int) ∧ rd xs k = n ∧ n ∉ xs.take k := by
  have hlt := List.idxOf_lt_length_of_mem h
  have hk : rd xs (xs.idxOf n) = n := by rw [rd_get _ _ hlt]; exact List.getElem_idxOf hlt
  refine ⟨xs.idxOf n, hlt, by unfold idx; rw [if_pos h], hk, fun hc => ?_⟩
  have h1 : (xs.take (xs.idxOf n)).idxOf n < (xs.take (xs.idxOf n)).length := List.idxOf_lt_length_of_mem hc
  have h2 : xs.idxOf n = (xs.take (xs.idxOf n)).idxOf n := by
    conv => lhs; rw [← List.take_append_drop (xs.idxOf n) xs, List.idxOf_append, if_pos hc]
  rw [List.length_take] at h1
  omega
def drops (node : Int) (xs : List Int) : List Int := xs.filter fun x => !(x == node)
theorem drops_none {node : Int} {xs : List Int} (h : node ∉ xs) : drops node xs = xs := by
  unfold drops
  rw [List.filter_eq_self]
  intro x hx
  have : x ≠ node := fun e => h (e ▸ hx)
  simpa using this
theorem drops_take {node : Int} {xs : List Int} {j : Nat} (h : j < xs.length) : drops node (xs.take (j + 1)) = drops node (xs.take j) ++ (if rd xs j = node then [] else [rd xs j]) := by
  unfold drops
  rw [take_rd _ _ h, List.filter_append]
  congr 1
  by_cases e : rd xs j = node
  · simp [e]
  · have : (rd xs j == node) = false := by simpa using e
    simp [e]
theorem drops_len (node : Int) (xs : List Int) : (drops node xs).length ≤ xs.length := List.length_filter_le _ _
theorem take_set_succ {ys : List Int} {i : Nat} {v : Int} (h : i < ys.length) : (ys.set i v).take (i + 1) = ys.take i ++ [v] := by
  rw [List.take_succ_eq_append_getElem (by simpa using h), List.take_set, List.set_eq_of_length_le (by simp; omega), List.getElem_set_self]
/-- In the midst of DeleteFunc: i numbers stand, j have been looked at. -/
structure DelW (w wr : World) (base : Nat) (ok : Nat → Prop) (g c : Nat) (xs : List Int) (node : Int) (i j : Nat) : Prop where
  ys : ∃ ys : List Int, (Kd.int .i64).R 3 wr base ok (.slice (some ⟨g, 0, none⟩) xs.length c) ys ∧ ys.take i = drops node (xs.take j) ∧ ∀ m, j ≤ m → m < xs.length → rd ys m = rd xs m
  below : Below base w wr
  kept : Kept w wr (· = g)
section
variable {w wr : World} {base g c i j : Nat} {ok : Nat → Prop} {xs : List Int} {node : Int}
theorem DelW.at_ (h : DelW w wr base ok g c xs node i j) (hij : i < j) (hj : j < xs.length) : wr.cell? ⟨g, j, none⟩ = some (.int .i64 (rd xs j)) ∧ (∃ v, wr.cell? ⟨g, i, none⟩ = some v) ∧ wr.frozen? ⟨g, i, none⟩ = false := by
  obtain ⟨ys, hr, hp, hs⟩ := h.ys
  obtain ⟨hl, _, hc⟩ := Kd.R_reads' hr
  obtain ⟨ad, e, h1⟩ := C_cell hc (k := j) (by omega)
  cases e
  obtain ⟨h3, h4⟩ := Kd.R_celln (enc := Value.int .i64) 0 hr (i : Int) (by omega) (by omega)
  rw [hs j (Nat.le_refl _) hj] at h1
  exact ⟨by simpa [Addr.add, show j ≠ 0 by omega] using h1, ⟨_, by simpa using h3⟩, by simpa using h4⟩
theorem DelW.skip (h : DelW w wr base ok g c xs node i j) (hj : j < xs.length) (he : rd xs j = node) : DelW w wr base ok g c xs node i (j + 1) := by
  obtain ⟨ys, hr, hp, hs⟩ := h.ys
  refine ⟨⟨ys, hr, ?_, fun m h1 h2 => hs m (by omega) h2⟩, h.below, h.kept⟩
  rw [hp, drops_take hj, if_pos he, List.append_nil]
theorem DelW.keep (h : DelW w wr base ok g c xs node i j) (hij : i < j) (hj : j < xs.length) (he : rd xs j ≠ node) (hg : base ≤ g) : DelW w (wr.setCell ⟨g, i, none⟩ (.int .i64 (rd xs j))) base ok g c xs node (i + 1) (j + 1) := by
  obtain ⟨ys, hr, hp, hs⟩ := h.ys
  obtain ⟨hl, _, _⟩ := Kd.R_reads' hr
  have h3 := Kd.R_putn (enc := Value.int .i64) hr (i : Int) (rd xs j)
  simp only [Int.toNat_natCast] at h3
  refine ⟨⟨ys.set i (rd xs j), h3, ?_, fun m h1 h2 => ?_⟩, h.below.setCell hg _, ?_⟩
  · rw [drops_take hj, if_neg he, ← hp, take_set_succ (by omega)]
  · rw [← hs m (by omega) h2]
    simp only [rd, List.getD_eq_getElem?_getD]
    rw [List.getElem?_set_ne (by omega)]
  · refine ⟨by simpa [World.setCell] using h.kept.1, fun k hk hne => ?_⟩
    rw [Below.heap_setCell _ _ _ _ hne]
    exact h.kept.2 k hk hne
end
theorem R_zeros {g c n base : Nat} {ok : Nat → Prop} : ∀ (m o : Nat) (w : World) (ys : List Int), (Kd.int .i64).R 3 w base ok (.slice (some ⟨g, 0, none⟩) n c) ys →
    ∃ zs, (Kd.int .i64).R 3 (w.setCells g o (List.replicate m (.int .i64 0))) base ok (.slice (some ⟨g, 0, none⟩) n c) zs ∧ zs.take o = ys.take o
  | 0, o, w, ys, h => ⟨ys, h, rfl⟩
  | m + 1, o, w, ys, h => by
    have h3 := Kd.R_putn (enc := Value.int .i64) h (o : Int) 0
    simp only [Int.toNat_natCast] at h3
    obtain ⟨zs, h4, h5⟩ := R_zeros m (o + 1) _ _ h3
    refine ⟨zs, h4, ?_⟩
    have := congrArg (List.take o) h5
    rw [List.take_take, List.take_take, Nat.min_eq_left (by omega), List.take_set] at this
    rw [this, List.set_eq_of_length_le (by simp; omega)]
theorem kept_setCells {w w1 : World} {g : Nat} (h : Kept w w1 (· = g)) : ∀ (vs : List Value) (o : Nat), Kept w (w1.setCells g o vs) (· = g) := by
  intro vs
  induction vs generalizing w1 with
  | nil => intro o; exact h
  | cons v vs ih =>
    intro o
    refine ih ⟨by simpa [World.setCell] using h.1, fun k hk hne => ?_⟩ (o + 1)
    rw [Below.heap_setCell _ _ _ _ hne]
    exact h.2 k hk hne
theorem below_setCells {w w1 : World} {base g : Nat} (hg : base ≤ g) (h : Below base w w1) : ∀ (vs : List Value) (o : Nat), Below base w (w1.setCells g o vs) := by
  intro vs
  induction vs generalizing w1 with
  | nil => intro o; exact h
  | cons v vs ih => intro o; exact ih (h.setCell hg _) (o + 1)
def DelPost (w : World) (base : Nat) (ok : Nat → Prop) (g c : Nat) (xs : List Int) (node : Int) (e : Ending) (w' : World) : Prop :=
  e = .returned (.slice (some ⟨g, 0, none⟩) (drops node xs).length c) ∧ (Kd.int .i64).R 3 w' base ok (.slice (some ⟨g, 0, none⟩) (drops node xs).length c) (drops node xs) ∧ Below base w w' ∧ Kept w w' (· = g)
theorem DelW.ends {w wr : World} {base g c i m : Nat} {ok : Nat → Prop} {xs : List Int} {node : Int} (h : DelW w wr base ok g c xs node i xs.length) (hi : i < xs.length) (hg : base ≤ g) :
    DelPost w base ok g c xs node (.returned (.slice (some ⟨g, 0, none⟩) i c)) (wr.setCells g i (List.replicate m (.int .i64 0))) := by
  obtain ⟨ys, hr, hp, hs⟩ := h.ys
  obtain ⟨hl, _, _⟩ := Kd.R_reads' hr
  obtain ⟨zs, h1, h2⟩ := R_zeros m i wr ys hr
  rw [List.take_length] at hp
  have hi2 : i = (drops node xs).length := by rw [← hp, List.length_take]; omega
  obtain ⟨hl2, _, _⟩ := Kd.R_reads' h1
  have h3 := Kd.R_take h1 (m := i) (by omega)
  rw [h2, hp] at h3
  rw [hi2] at h3 ⊢
  exact ⟨rfl, h3, below_setCells hg h.below _ _, kept_setCells h.kept _ _⟩
set_option maxRecDepth 100000 in
theorem deleteFunc_calls (w : World) (base : Nat) (ok : Nat → Prop) (g c : Nat) (xs : List Int) (b : Nat) (node : Int) (hr : (Kd.int .i64).R 3 w base ok (.slice (some ⟨g, 0, none⟩) xs.length c) xs)
    (hb : w.cell? ⟨b, 0, none⟩ = some (.int .i64 node)) (hbg : b ≠ g) (hin : node ∈ xs) (h9 : xs.length ≤ 9) :
    Calls Tryd.prog 41 #[.slice (some ⟨g, 0, none⟩) xs.length c, .func (Fn.func 42) #[] #[.pointer (some ⟨b, 0, none⟩)]] w (DelPost w base ok g c xs node) := by
  have hC := (Kd.R_reads' hr).2.2
  obtain ⟨k0, hk0, hix, hrk, hno⟩ := idx_spec hin
  have hg : base ≤ g := by
    have h := (Kd.R_bound hr).1 g (by simp [Value.ownBlock])
    exact h.2.1
  have H0 : Aside0 (DelW w w base ok g c xs node k0 (k0 + 1)) := ⟨⟨xs, hr, by rw [drops_take hk0, if_pos hrk, List.append_nil, drops_none hno], fun _ _ _ => rfl⟩, Below.refl _ _, Kept.refl _ _⟩
  have HC := Lib.hid hC
  have HB := Lib.hid hb
  have HG := Lib.hid hg
  have HBG := Lib.hid hbg
  have n9 : (xs.length : Int) ≤ 9 := by omega
  have kn : (k0 : Int) < xs.length := by omega
  have kz : (0 : Int) ≤ k0 := by omega
  have hk1 : ((k0 : Int) == -1) = false := by rw [beq_eq_false_iff_ne]; omega
  have HIX := Lib.hid hix
  clear hr hb hin hC hrk hno h9 hix hk0 hg hbg
  go_enter Tryd.func41, Tryd.ntmps41
  go_wp2_with (go_at_call 49; refine (indexFunc_calls w _ c xs b node HC.out HB.out).mono ?_; rintro e w' ⟨rfl, rfl⟩; rw [HIX.out])
  go_loopw [5, 6] (fun v5 v6 wr => ∃ i j : Nat, v5 = .int .i64 i ∧ v6 = .int .i64 j ∧ i < j ∧ j ≤ xs.length ∧ Aside0 (DelW w wr base ok g c xs node i j)) (fun _ v _ => xs.length - (intOf v).toNat)
  case atStart => exact ⟨k0, k0 + 1, rfl, by go_num, by omega, by omega, H0⟩
  case round =>
    clear H0
    obtain ⟨i, j, rfl, rfl, hij, hjn, HD⟩ := hrel
    have i0 : (0 : Int) ≤ i := by omega
    have j0 : (0 : Int) ≤ j := by omega
    by_cases hlt : j < xs.length
    · have j1 : (j : Int) < xs.length := by omega
      have i1 : (i : Int) < xs.length := by omega
      obtain ⟨hcj, ⟨vi, hci⟩, hfi⟩ := HD.out.at_ hij hlt
      have HBr := Lib.hid (show wr.cell? ⟨b, 0, none⟩ = some (.int .i64 node) by
        have hlt : b < w.heap.size := World.block_lt_of_cell? w _ HB.out
        have := HD.out.kept.2 b hlt HBG.out
        rw [World.cell?_of_block (w := w) (w' := wr) (a := ⟨b, 0, none⟩) this]
        exact HB.out)
      obtain ⟨n, hn⟩ : ∃ n, n = rd xs j := ⟨_, rfl⟩
      rw [← hn] at hcj
      by_cases he : n = node
      · have hb : (n == node) = true := beq_iff_eq.2 he
        have HS := Aside0.mk (HD.out.skip hlt (hn ▸ he))
        clear he hn hlt
        go_wp2_with (go_at_call 42; refine (say1_calls _ b _ node HBr.out).mono ?_; rintro e w' ⟨rfl, rfl⟩)
        go_roundw
        case rel => exact ⟨i, j + 1, rfl, by go_num, by omega, by omega, HS⟩
        case measure => simp [intOf]; omega
      · have hb : (n == node) = false := beq_eq_false_iff_ne.2 he
        have HS := Aside0.mk (HD.out.keep hij hlt (hn ▸ he) HG.out)
        rw [← hn] at HS
        clear he hn hlt
        go_wp2_with (go_at_call 42; refine (say1_calls _ b _ node HBr.out).mono ?_; rintro e w' ⟨rfl, rfl⟩)
        go_roundw
        case rel => exact ⟨i + 1, j + 1, by go_num, by go_num, by omega, by omega, HS⟩
        case measure => simp [intOf]; omega
    · have j1 : ¬ (j : Int) < xs.length := by omega
      obtain rfl : j = xs.length := by omega
      have i1 : (i : Int) < xs.length := by omega
      have hclr := fun (ty : TypeId) => Lib.run_clear_slice (P := Tryd.prog) wr 26 3 ty (.int .i64 0) Tryd.underlying26 zeroInt rfl rfl g i (xs.length - i) (c - i) (by omega)
        (by
          intro q hq
          obtain ⟨ys, hr, _, _⟩ := HD.out.ys
          obtain ⟨h3, h4⟩ := Kd.R_celln (enc := Value.int .i64) 0 hr ((i + q : Nat) : Int) (by omega) (by omega)
          simp only [Int.toNat_natCast] at h3
          rw [h3]; rfl)
        (by
          intro q hq
          obtain ⟨ys, hr, _, _⟩ := HD.out.ys
          obtain ⟨h3, h4⟩ := Kd.R_celln (enc := Value.int .i64) 0 hr ((i + q : Nat) : Int) (by omega) (by omega)
          simpa only [Int.toNat_natCast] using h4)
      have hcn : (xs.length : Int) ≤ c := by
        obtain ⟨ys, hr, _, _⟩ := HD.out.ys
        have := (Kd.R_reads' hr).2.1
        omega
      have HI := Lib.hid hij
      clear hlt
      go_wp2
      go_ret
      exact HD.out.ends HI.out HG.out
end Go.Proofs.YtmhfigkdeeldnaaDoor
