/- The memory of WaveTrees' loop: waves, who has begun, what is to be heard, what was told. -/
import Derived.Test.YtpnokpoikhpiiaaTrP
import Derived.Deep.Slices
namespace Go.Proofs.Ytpnokpoikhpiiaa
open Go.RowKit Go.Maps Go.Proofs.YtpnokpoikhpiiaaW.PrintWords Go.Proofs.YtpnokpoikhpiiaaW.PrintLast Go.Proofs.YtpnokpoikhpiiaaW.PrintMore
open WvTree WvSim
set_option linter.unusedVariables false
set_option linter.unusedSimpArgs false
theorem infoB : (Try.prog.info? 4).map (fun i => (i.zero, i.size, i.bytes)) = some (some (.bool false), 1, 1) := by kernel_rfl
theorem infoM : (Try.prog.info? 42).map (fun i => (i.zero, i.size, i.bytes)) = some (some (.agg #[.int .i64 0, .int .i64 0]), 2, 16) := by kernel_rfl
theorem made_bools (n : Nat) : madeCells #[Value.bool false] n = ((List.replicate n false).map Value.bool).toArray := by
  apply Array.ext
  · simp [madeCells]
  · intro i h1 h2
    simp [madeCells, Nat.mod_one]
structure Mem (w w5 wr : World) (bb : Nat) (ws : List WI) (nd : Nat → Nd) (bs : List Bool) (vT vA vN : Value) (todo all : List (Int × Int)) (T : List Int) : Prop where
  old : ∀ k, k < w5.heap.size → ¬ InW ws k → k ≠ bb → wr.heap[k]? = w5.heap[k]?
  size : w5.heap.size ≤ wr.heap.size
  below : Below w.heap.size w wr
  wv : Waves wr w.heap.size ws nd
  wt : ∀ k, InW ws k → k < w5.heap.size
  b1 : bb < w5.heap.size
  b2 : ¬ InW ws bb
  b3 : w.heap.size ≤ bb
  bg : wr.heap[bb]? = some (.cells (bs.map Value.bool).toArray 4 (0, 0))
  rt : kLk.R 42 wr w5.heap.size (fun _ => True) vT todo
  ra : kLk.R 42 wr w5.heap.size (fun _ => True) vA all
  rn : (Kd.int .i64).R 3 wr w5.heap.size (fun _ => True) vN T
  sTA : ∀ k, vT.ownBlock = some k → vA.ownBlock ≠ some k
  sNT : ∀ k, vN.ownBlock = some k → vT.ownBlock ≠ some k
  sNA : ∀ k, vN.ownBlock = some k → vA.ownBlock ≠ some k
theorem lk_free {w w1 : World} {base : Nat} {ok ok' : Nat → Prop} {x : Int × Int} {cs : List Value} (h : kLk.M w base ok x cs) : kLk.M w1 base ok' x cs := by
  obtain rfl := kLk_open (Kd.K_of_M kLk h)
  exact kLk_mkM _ _ _ x
theorem int_free {w w1 : World} {base : Nat} {ok ok' : Nat → Prop} {x : Int} {cs : List Value} (h : (Kd.int .i64).M w base ok x cs) : (Kd.int .i64).M w1 base ok' x cs := h
section
variable {w w5 wr w1 : World} {bb : Nat} {ws : List WI} {nd : Nat → Nd} {bs : List Bool} {vT vA vN : Value} {todo all : List (Int × Int)} {T : List Int}
theorem Mem.step (h : Mem w w5 wr bb ws nd bs vT vA vN todo all T) (hb : Below wr.heap.size wr w1) : Mem w w5 w1 bb ws nd bs vT vA vN todo all T :=
  ⟨fun k hk hn hne => (hb.block k (Nat.lt_of_lt_of_le hk h.size)).trans (h.old k hk hn hne), Nat.le_trans h.size hb.size, below_step h.below hb, h.wv.below hb, h.wt, h.b1, h.b2, h.b3, (hb.block _ (blk_lt h.bg)).trans h.bg, Kd.R_below h.rt hb, Kd.R_below h.ra hb, Kd.R_below h.rn hb, h.sTA, h.sNT, h.sNA⟩
theorem Mem.drew (h : Mem w w5 wr bb ws nd bs vT vA vN todo all T) (n : Nat) : Mem w w5 (wr.drewN n) bb ws nd bs vT vA vN todo all T := h.step (pw_below_drewN (Below.refl _ _) _)
theorem Mem.quit (h : Mem w w5 wr bb ws nd bs vT vA vN todo all T) : Mem w w5 wr bb ws nd bs vT vA (.slice none 0 0) todo all [] :=
  ⟨h.old, h.size, h.below, h.wv, h.wt, h.b1, h.b2, h.b3, h.bg, h.rt, h.ra, Kd.R_nil _ _ _ _ _, h.sTA, fun k hk => by simp [Value.ownBlock] at hk, fun k hk => by simp [Value.ownBlock] at hk⟩
theorem Mem.waves (h : Mem w w5 wr bb ws nd bs vT vA vN todo all T) {nd' : Nat → Nd} (he : ∀ i, i < ws.length → nd' i = nd i) : Mem w w5 wr bb ws nd' bs vT vA vN todo all T :=
  ⟨h.old, h.size, h.below, h.wv.ext he, h.wt, h.b1, h.b2, h.b3, h.bg, h.rt, h.ra, h.rn, h.sTA, h.sNT, h.sNA⟩
theorem Mem.ge (h : Mem w w5 wr bb ws nd bs vT vA vN todo all T) : w.heap.size ≤ w5.heap.size := by have := h.b1; have := h.b3; omega
/-- Behind a call of Begin or Hear. -/
theorem Mem.says (h : Mem w w5 wr bb ws nd bs vT vA vN todo all T) {i : Nat} (hi : i < ws.length) {x : Nd} {v : Value} {l : List Int} (hK : Kept wr w1 (In (wAt ws i).lo (wAt ws i).hi)) (hB : Below (wAt ws i).lo wr w1) (hx : IsWave w1 (wAt ws i).lo (wAt ws i).hi x (wAt ws i).p) (hv : (Kd.int .i64).R 3 w1 wr.heap.size (fun _ => True) v l) :
    Mem w w5 w1 bb ws (updN nd i x) bs vT vA v todo all l := by
  have hin : ∀ k, In (wAt ws i).lo (wAt ws i).hi k → InW ws k := fun k hk => ⟨i, hi, hk⟩
  have hnew : ∀ k, v.ownBlock = some k → wr.heap.size ≤ k := fun k hk => (R_own_lt hv hk).1
  refine ⟨fun k hk hn hne => (hK.2 k (Nat.lt_of_lt_of_le hk h.size) (fun hc => hn (hin k hc))).trans (h.old k hk hn hne), Nat.le_trans h.size hK.1, h.below.trans (hB.mono (h.wv.lo i hi)), h.wv.one hi hx hK, h.wt, h.b1, h.b2, h.b3, (hK.2 _ (blk_lt h.bg) (fun hc => h.b2 (hin _ hc))).trans h.bg, ?_, ?_, Kd.R_lower hv h.size, h.sTA, ?_, ?_⟩
  · exact R_own_move lk_free h.rt fun k hk => hK.2 k (R_own_lt h.rt hk).2 (fun hc => by have := h.wt k (hin k hc); have := (R_own_lt h.rt hk).1; omega)
  · exact R_own_move lk_free h.ra fun k hk => hK.2 k (R_own_lt h.ra hk).2 (fun hc => by have := h.wt k (hin k hc); have := (R_own_lt h.ra hk).1; omega)
  · intro k hk hc
    have := hnew k hk
    have := (R_own_lt h.rt hc).2
    omega
  · intro k hk hc
    have := hnew k hk
    have := (R_own_lt h.ra hc).2
    omega
/-- One more has begun. -/
theorem Mem.begun (h : Mem w w5 wr bb ws nd bs vT vA vN todo all T) (i : Nat) : Mem w w5 (wr.setCell ⟨bb, i, none⟩ (.bool true)) bb ws nd (bs.set i true) vT vA vN todo all T := by
  have hh : ∀ k, k ≠ bb → (wr.setCell ⟨bb, i, none⟩ (.bool true)).heap[k]? = wr.heap[k]? := fun k hk => Below.heap_setCell _ _ _ _ hk
  have hs : (wr.setCell ⟨bb, i, none⟩ (.bool true)).heap.size = wr.heap.size := by simp [World.setCell]
  have h1 := h.b1
  refine ⟨fun k hk hn hne => (hh k hne).trans (h.old k hk hn hne), by rw [hs]; exact h.size, below_set h.below h.b3, ?_, h.wt, h.b1, h.b2, h.b3, ?_, ?_, ?_, ?_, h.sTA, h.sNT, h.sNA⟩
  · exact h.wv.move (fun k hk => hh k (fun e => h.b2 (e ▸ hk))) (by rw [hs]; exact Nat.le_refl _)
  · rw [blk_set h.bg]
    simp
  · exact R_own_move lk_free h.rt fun k hk => hh k (by have := (R_own_lt h.rt hk).1; omega)
  · exact R_own_move lk_free h.ra fun k hk => hh k (by have := (R_own_lt h.ra hk).1; omega)
  · exact R_own_move int_free h.rn fun k hk => hh k (by have := (R_own_lt h.rn hk).1; omega)
/-- Behind an append to what is to be heard. -/
theorem Mem.appT (h : Mem w w5 wr bb ws nd bs vT vA vN todo all T) {v1 : Value} {t1 : List (Int × Int)} (ho : kLk.R 42 w1 w5.heap.size (fun _ => True) v1 t1) (hb : Below w5.heap.size wr w1) (hg : wr.grownBy w1 vT.ownBlock) (hat : v1.ownBlock = vT.ownBlock ∨ ∃ b, v1.ownBlock = some b ∧ wr.heap.size ≤ b) : Mem w w5 w1 bb ws nd bs v1 vA vN t1 all T := by
  refine ⟨fun k hk hn hne => (hb.block k hk).trans (h.old k hk hn hne), Nat.le_trans h.size hb.size, h.below.trans (hb.mono h.ge), h.wv.move (fun k hk => hb.block k (h.wt k hk)) hb.size, h.wt, h.b1, h.b2, h.b3, (hb.block _ h.b1).trans h.bg, ho, ?_, ?_, ?_, ?_, h.sNA⟩
  · exact R_own_move lk_free h.ra fun k hk => hg.block k (R_own_lt h.ra hk).2 (fun e => h.sTA k e.symm hk)
  · exact R_own_move int_free h.rn fun k hk => hg.block k (R_own_lt h.rn hk).2 (fun e => h.sNT k hk e.symm)
  · intro k hk hc
    rcases hat with e | ⟨b, e, hb'⟩
    · rw [e] at hk; exact h.sTA k hk hc
    · rw [e] at hk; cases hk; have := (R_own_lt h.ra hc).2; omega
  · intro k hk hc
    rcases hat with e | ⟨b, e, hb'⟩
    · rw [e] at hc; exact h.sNT k hk hc
    · rw [e] at hc; cases hc; have := (R_own_lt h.rn hk).2; omega
/-- Behind an append to what was told. -/
theorem Mem.appA (h : Mem w w5 wr bb ws nd bs vT vA vN todo all T) {v1 : Value} {t1 : List (Int × Int)} (ho : kLk.R 42 w1 w5.heap.size (fun _ => True) v1 t1) (hb : Below w5.heap.size wr w1) (hg : wr.grownBy w1 vA.ownBlock) (hat : v1.ownBlock = vA.ownBlock ∨ ∃ b, v1.ownBlock = some b ∧ wr.heap.size ≤ b) : Mem w w5 w1 bb ws nd bs vT v1 vN todo t1 T := by
  refine ⟨fun k hk hn hne => (hb.block k hk).trans (h.old k hk hn hne), Nat.le_trans h.size hb.size, h.below.trans (hb.mono h.ge), h.wv.move (fun k hk => hb.block k (h.wt k hk)) hb.size, h.wt, h.b1, h.b2, h.b3, (hb.block _ h.b1).trans h.bg, ?_, ho, ?_, ?_, h.sNT, ?_⟩
  · exact R_own_move lk_free h.rt fun k hk => hg.block k (R_own_lt h.rt hk).2 (fun e => h.sTA k hk e.symm)
  · exact R_own_move int_free h.rn fun k hk => hg.block k (R_own_lt h.rn hk).2 (fun e => h.sNA k hk e.symm)
  · intro k hk hc
    rcases hat with e | ⟨b, e, hb'⟩
    · rw [e] at hc; exact h.sTA k hk hc
    · rw [e] at hc; cases hc; have := (R_own_lt h.rt hk).2; omega
  · intro k hk hc
    rcases hat with e | ⟨b, e, hb'⟩
    · rw [e] at hc; exact h.sNA k hk hc
    · rw [e] at hc; cases hc; have := (R_own_lt h.rn hk).2; omega
/-- What is to be heard lies in new memory. -/
theorem Mem.fresh (h : Mem w w5 wr bb ws nd bs vT vA (.slice none 0 0) todo all []) {v1 : Value} {t1 : List (Int × Int)} (ho : kLk.R 42 w1 wr.heap.size (fun _ => True) v1 t1) (hb : Below wr.heap.size wr w1) : Mem w w5 w1 bb ws nd bs v1 vA (.slice none 0 0) t1 all [] := by
  have h1 := h.step hb
  refine ⟨h1.old, h1.size, h1.below, h1.wv, h1.wt, h1.b1, h1.b2, h1.b3, h1.bg, Kd.R_lower ho h.size, h1.ra, h1.rn, ?_, fun k hk => by simp [Value.ownBlock] at hk, h1.sNA⟩
  intro k hk hc
  have := (R_own_lt ho hk).1
  have := (R_own_lt h.ra hc).2
  omega
end
/-- l[:j], l[j:] of messages. -/
theorem Msg_front {w : World} {A : Option Addr} {c j : Nat} {l : List (Int × Int)} (h : kLk.C w A l.length l) (h2 : j ≤ l.length) (hc : l.length ≤ c) :
    ∃ A', (∀ W : World, (Instr.slice 34 (.slice A l.length c) none (some (.int .i64 j)) none).run Try.prog W = .ok (.slice A' (l.take j).length c) W) ∧ kLk.C w A' (l.take j).length (l.take j) := by
  have hl : (l.take j).length = j := by rw [List.length_take]; omega
  have hC := Kd.C_mid (k := kLk) h (Nat.zero_le j) h2 hc
  rw [List.drop_zero] at hC
  refine ⟨if c = 0 then A else A.map (·.add (0 * kLk.sz)), fun W => ?_, hC⟩
  obtain ⟨i0, hi0, hz0, hz1, hz2⟩ := info_parts infoM
  have ht := Try.underlying34
  have hel : Try.prog.elem 34 = 42 := by simp [Program.elem, ht]
  have hu : Try.prog.underlying 34 = some (.slice (Try.prog.elem 34)) := by rw [hel]; exact ht
  rw [run_slice_h (w := W) 34 A l.length c hu .i64 (j : Int) (by omega) (by omega), hel, hl]
  have e1 : kLk.sz = 2 := rfl
  simp [sizeOf, typeInfo, hi0, hz1, sliced, Result.andThen, e1]
theorem Msg_back {w : World} {A : Option Addr} {c j : Nat} {l : List (Int × Int)} (h : kLk.C w A l.length l) (h2 : j ≤ l.length) (hc : l.length ≤ c) :
    ∃ A', (∀ W : World, (Instr.slice 34 (.slice A l.length c) (some (.int .i64 j)) none none).run Try.prog W = .ok (.slice A' (l.drop j).length (c - j)) W) ∧ kLk.C w A' (l.drop j).length (l.drop j) := by
  have hl : (l.drop j).length = l.length - j := List.length_drop
  have hC := Kd.C_mid (k := kLk) h h2 (Nat.le_refl _) hc
  rw [List.take_length] at hC
  refine ⟨if c = j then A else A.map (·.add (j * kLk.sz)), fun W => ?_, hC⟩
  obtain ⟨i0, hi0, hz0, hz1, hz2⟩ := info_parts infoM
  have ht := Try.underlying34
  have hel : Try.prog.elem 34 = 42 := by simp [Program.elem, ht]
  have hu : Try.prog.underlying 34 = some (.slice (Try.prog.elem 34)) := by rw [hel]; exact ht
  rw [run_slice_l (w := W) 34 A l.length c hu .i64 (j : Int) (by omega) (by omega), hel, hl]
  have e1 : kLk.sz = 2 := rfl
  simp [sizeOf, typeInfo, hi0, hz1, sliced, Result.andThen, e1]
end Go.Proofs.Ytpnokpoikhpiiaa
