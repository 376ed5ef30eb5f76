/- check: the error of nodes and loads. -/
import Derived.Test.YthgfodfkjlpegaaDoorPoW
import Derived.Test.YthgfodfkjlpegaaDoorKeys
import Derived.Test.YthgfodfkjlpegaaDoorWErr
namespace Go.Proofs.YthgfodfkjlpegaaDoor
open Go.RowKit Go.Maps Go.Proofs.YthgfodfkjlpegaaDoorW.PrintWords Go.Proofs.YthgfodfkjlpegaaDoorW.PrintLast Go.Proofs.YthgfodfkjlpegaaDoorW.PrintMore
set_option linter.unusedVariables false
set_option linter.unusedSimpArgs false
set_option maxRecDepth 100000 in
theorem faultAt_calls (w : World) (kind k c : Int) :
    Calls Tryd.prog 29 #[.int .i64 kind, .int .i64 k, .iface 32 (.int .i64 c)] w fun e w' => ∃ v, e = .returned v ∧ IsFault w' w.heap.size kind k c v ∧ Below w.heap.size w w' := by
  go_enter Tryd.func29, Tryd.ntmps29
  go_wp2
  go_ret
  exact ⟨_, rfl, ⟨_, rfl, by simp, by simpa using heap_alloc_new w _⟩, below_alloc (Below.refl _ _) _⟩
/-- The error of the load at place k. -/
def ldErr (nodes : List Int) (l : List Ld) (k : Nat) : Er :=
  if (ldAt l k).node ∉ nodes then .at_ 2 k 12 else if (ldAt l k).weight < 0 ∨ 1000000 < (ldAt l k).weight then .at_ 2 k 1 else if (ldAt l k).sub ∈ (l.take k).map Ld.sub then .at_ 2 k 9 else .ok
def ldErrs (nodes : List Int) (l : List Ld) : Nat → Er
  | 0 => .ok
  | k + 1 => match ldErrs nodes l k with | .ok => ldErr nodes l k | e => e
def chk (nodes : List Int) (l : List Ld) : Er :=
  if ¬ nodes.Pairwise (· < ·) then .num 1 else if nodes = [] then .num 1 else if 512 < l.length then .num 2 else ldErrs nodes l l.length
theorem ldErrs_step {nodes : List Int} {l : List Ld} {k : Nat} (h : ldErrs nodes l k = .ok) : ldErrs nodes l (k + 1) = ldErr nodes l k := by
  simp [ldErrs, h]
theorem ldErrs_stop {nodes : List Int} {l : List Ld} {k : Nat} {e : Er} (h : ldErrs nodes l k = e) (he : e ≠ .ok) : ∀ n, ldErrs nodes l (k + n) = e := by
  intro n
  induction n with
  | zero => exact h
  | succ n ih =>
    show ldErrs nodes l (k + n + 1) = e
    simp only [ldErrs, ih]
theorem ldErrs_end {nodes : List Int} {l : List Ld} {k : Nat} {e : Er} (h : ldErrs nodes l k = .ok) (hk : k < l.length) (h2 : ldErr nodes l k = e) (he : e ≠ .ok) : ldErrs nodes l l.length = e :=
by
  have := ldErrs_stop (k := k + 1) (by rw [ldErrs_step h, h2]) he (l.length - (k + 1))
  rw [show k + 1 + (l.length - (k + 1)) = l.length by omega] at this
  exact this
theorem chk_unsorted {nodes : List Int} {l : List Ld} (h : ¬ nodes.Pairwise (· < ·)) : chk nodes l = .num 1 := by simp [chk, h]
theorem chk_empty {l : List Ld} : chk [] l = .num 1 := by simp [chk]
theorem chk_long {nodes : List Int} {l : List Ld} (h : nodes.Pairwise (· < ·)) (h2 : nodes ≠ []) (h3 : 512 < l.length) : chk nodes l = .num 2 := by simp [chk, h, h2, h3]
theorem chk_loads {nodes : List Int} {l : List Ld} (h : nodes.Pairwise (· < ·)) (h2 : nodes ≠ []) (h3 : ¬ 512 < l.length) : chk nodes l = ldErrs nodes l l.length := by
  unfold chk
  rw [if_neg (by simpa using h), if_neg h2, if_neg h3]
theorem inc_step {xs : List Int} {j k : Nat} (h : (xs.take k).Pairwise (· < ·)) (hk : k < xs.length) (hj : k = j + 1) (h2 : rd xs j < rd xs k) : (xs.take (k + 1)).Pairwise (· < ·) := by
  rw [take_rd xs k hk, List.pairwise_append]
  refine ⟨h, by simp, fun a ha b hb => ?_⟩
  rw [List.mem_singleton] at hb
  subst hb
  rw [hj, take_rd xs j (by omega)] at h ha
  rw [List.pairwise_append] at h
  rcases List.mem_append.1 ha with ha | ha
  · have := h.2.2 a ha (rd xs j) (by simp)
    omega
  · rw [List.mem_singleton] at ha
    rw [ha]
    exact h2
theorem inc_not {xs : List Int} {j k : Nat} (hk : k < xs.length) (hj : k = j + 1) (h2 : rd xs j ≥ rd xs k) : ¬ xs.Pairwise (· < ·) := by
  intro h
  have := List.pairwise_iff_getElem.1 h j k (by omega) hk (by omega)
  rw [rd_get xs j (by omega), rd_get xs k hk] at h2
  omega
section
variable {w w1 : World} {b : Nat} {l : List Int}
set_option maxRecDepth 100000 in
theorem Keys.bump (h : Keys w b l) {x : Int} (hx : (Lit.int .i64 x).wf = true) (hl : l.length < maxLen) {c0 : Int} (hc : c0 = if x ∈ l then 1 else 0) :
    ∃ w', (Instr.mapUpdate 65 (.map (some b)) (.int .i64 x) (.int .i64 (c0 + 1))).run Tryd.prog w = .ok () w' ∧ (Instr.lookup 65 (.map (some b)) (.int .i64 x) false).run Tryd.prog w' = .ok (.int .i64 (c0 + 1)) w' ∧ (x ∉ l → Keys w' b (l ++ [x])) ∧ w.grownBy w' (some b) := by
  by_cases hm : x ∈ l
  · rw [if_pos hm] at hc
    subst hc
    obtain ⟨D, h, hs, hh, ha⟩ := h
    have hk : WideAt.IsKeyLit (.int .i64 x) := trivial
    obtain ⟨w', hr, ho, hg⟩ := h.update keyedInt Tryd.underlying65 hl (keyOf_int_mk Tryd.underlying3 hx) (plainElem_int (H := Unit) Tryd.underlying3 (a := 1 + 1) (by decide))
    refine ⟨w', hr, ?_, fun hn => absurd hm hn, hg⟩
    obtain ⟨c, hr2, hc, _⟩ := ho.lookup_int keyedInt Tryd.underlying65 Tryd.underlying3 (zeroInt w') (keyOf_int_mk Tryd.underlying3 hx)
    rw [atKey_put_same h.isMap hk] at hc
    have : c = 1 + 1 := by
      injection hc with hc
      injection hc with _ hc
      exact hc.symm
    rw [hr2, this]
  · rw [if_neg hm] at hc
    subst hc
    obtain ⟨w', hr, hk, hg⟩ := h.put hx hm hl
    refine ⟨w', hr, ?_, fun _ => hk, hg⟩
    have := hk.look hx
    rw [if_pos (by simp)] at this
    exact this
end
set_option maxRecDepth 100000 in
/-- At the operation: a number is counted once more. -/
theorem wpList_bump (w : World) {ops : Array Oper} {rest : List Oper} {o : Oper} {a : Act} {Q : Exit → Act → World → Prop}
    (hg : o.guard = none) (m x v : Operand) (hop : o.op = Op.mapUpdate 65 m x v) (b : Nat) (l : List Int) (n c0 : Int)
    (hm : a.eval m = .map (some b)) (hx : a.eval x = .int .i64 n) (hv : a.eval v = .int .i64 (c0 + 1)) (h : Keys w b l) (hwf : (Lit.int .i64 n).wf = true) (hc : c0 = if n ∈ l then 1 else 0) (hl : l.length < maxLen)
    (hK : ∀ w', (Instr.lookup 65 (.map (some b)) (.int .i64 n) false).run Tryd.prog w' = .ok (.int .i64 (c0 + 1)) w' → (n ∉ l → Keys w' b (l ++ [n])) → w.grownBy w' (some b) → wpList Tryd.prog ops Q rest (a.put o.dst undef) w') : wpList Tryd.prog ops Q (o :: rest) a w := by
  refine wpList_plain hg fun K' hK' => ?_
  obtain ⟨w', hrun, r1, r2, r3⟩ := h.bump hwf hl hc
  unfold Oper.wp
  simp [execOp, hop, hm, hx, hv, hrun, Result.andThen]
  exact hK' _ _ (hK w' r1 r2 r3)
set_option maxRecDepth 100000 in
set_option maxHeartbeats 1000000 in
theorem check_calls (w : World) (A B : Option Addr) (c d : Nat) (nodes : List Int) (l : List Ld) (hr : (Kd.int .i64).C w A nodes.length nodes) (hl : kLd.C w B l.length l) (hwf : ∀ x ∈ l, (Lit.int .i64 x.sub).wf = true) :
    Calls Tryd.prog 17 #[.slice A nodes.length c, .slice B l.length d] w fun e w' => ∃ v, e = .returned v ∧ IsEr w' w.heap.size (chk nodes l) v ∧ Below w.heap.size w w' := by
  have HR := Lib.hid hr
  have HL := Lib.hid hl
  have HWF := Lib.hid hwf
  have hm : (nodes.length : Int) ≤ 9223372036854775807 := by have : nodes.length ≤ 9223372036854775807 := hr.2.1; omega
  have hm2 : (l.length : Int) ≤ 9223372036854775807 := by have : l.length ≤ 9223372036854775807 := hl.2.1; omega
  clear hr hl hwf
  go_enter Tryd.func17, Tryd.ntmps17
  go_wp2
  go_loop [12] (fun v => ∃ k : Nat, k ≤ nodes.length ∧ v = .int .i64 k ∧ Hid ((nodes.take k).Pairwise (· < ·))) (fun v => nodes.length - (intOf v).toNat)
  case atStart => exact ⟨0, Nat.zero_le _, rfl, by unfold Hid; simp⟩
  case round =>
    obtain ⟨k, hk, rfl, hno⟩ := hrel
    by_cases hlt : k < nodes.length
    · obtain ⟨ad, rfl, hcell⟩ := C_cell HR.out hlt
      have k0 : (0 : Int) ≤ k := by omega
      have k1 : (k : Int) < nodes.length := by omega
      have HLT := Lib.hid hlt
      by_cases h0 : (k : Int) > 0
      · have h0b : decide ((k : Int) > 0) = true := by simpa using h0
        obtain ⟨j, hj⟩ : ∃ j : Nat, k = j + 1 := ⟨k - 1, by omega⟩
        have j0 : (0 : Int) ≤ (k : Int) - 1 := by omega
        have j1 : (k : Int) - 1 < nodes.length := by omega
        obtain ⟨_, e, hcell2⟩ := C_cell HR.out (show j < nodes.length by omega)
        cases e
        have HJ := Lib.hid hj
        obtain ⟨x, hx⟩ : ∃ x, x = rd nodes k := ⟨_, rfl⟩
        obtain ⟨y, hy⟩ : ∃ y, y = rd nodes j := ⟨_, rfl⟩
        rw [← hx] at hcell
        rw [← hy, show j = k - 1 by omega] at hcell2
        by_cases hb : y ≥ x
        · have hbb : decide (y ≥ x) = true := by simpa using hb
          have HN := Lib.hid (chk_unsorted (l := l) (inc_not hlt hj (by rw [← hx, ← hy]; exact hb)))
          clear hb hlt hx hy hj h0
          go_wp2
          go_ret
          exact ⟨_, rfl, by rw [HN.out]; exact rfl, Below.refl _ _⟩
        · have hbb : decide (y ≥ x) = false := by simpa using hb
          have HP := Lib.hid (inc_step hno.out hlt hj (by rw [← hx, ← hy]; omega))
          clear hb hlt hx hy hj h0
          go_wp2
          go_round
          case rel => exact ⟨k + 1, by have := HLT.out; omega, by go_num, HP⟩
          case measure => have := HLT.out; simp [intOf]; omega
      · obtain rfl : k = 0 := by omega
        have hc0 : w.cell? ad = some (.int .i64 (rd nodes 0)) := by simpa [Addr.add] using hcell
        have HP := Lib.hid (show (nodes.take 1).Pairwise (· < ·) by have := take_rd nodes 0 hlt; simp only [List.take_zero, List.nil_append] at this; rw [this]; simp)
        have k2 : (0 : Int) < nodes.length := by omega
        clear h0 hlt hcell k0 k1
        go_wp2
        go_round
        case rel => exact ⟨1, by have := HLT.out; omega, by go_num, HP⟩
        case measure => have := HLT.out; simp [intOf]; omega
    · have k1 : ¬ (k : Int) < nodes.length := by omega
      have HS := Lib.hid (show nodes.Pairwise (· < ·) by have := hno.out; rw [List.take_of_length_le (by omega)] at this; exact this)
      clear hlt
      by_cases he : nodes = []
      · subst he
        go_wp2
        go_ret
        exact ⟨_, rfl, by rw [chk_empty]; exact rfl, Below.refl _ _⟩
      · have he1 : ((nodes.length : Int) == 0) = false := by
          have := List.length_pos_iff.2 he
          exact beq_eq_false_iff_ne.2 (by omega)
        have HE := Lib.hid he
        clear he
        by_cases hg : (l.length : Int) > 512
        · have HN := Lib.hid (chk_long HS.out HE.out (l := l) (by omega))
          go_wp2
          go_ret
          exact ⟨_, rfl, by rw [HN.out]; exact rfl, Below.refl _ _⟩
        · have HN := Lib.hid (chk_loads HS.out HE.out (l := l) (by omega))
          have HLEN := Lib.hid (show l.length ≤ 512 by omega)
          have hmm := @run_makeMap Tryd.prog
          go_wp2
          clear hmm
          go_loopw [43] (fun v43 wr => ∃ k : Nat, v43 = .int .i64 k ∧ k ≤ l.length ∧ Aside0 (Keys wr w.heap.size ((l.take k).map Ld.sub)) ∧ Aside0 (Below w.heap.size w wr) ∧ Hid (ldErrs nodes l k = .ok)) (fun v _ => l.length - (intOf v).toNat)
          case atStart => exact ⟨0, rfl, Nat.zero_le _, ⟨Keys.made w⟩, ⟨below_alloc (Below.refl _ _) _⟩, rfl⟩
          case round =>
            obtain ⟨k, rfl, hk, HK, HB, HER⟩ := hrel
            by_cases hlt : k < l.length
            · obtain ⟨ad, rfl, hc0, hc1, hc2⟩ := Ld_cell (kLd.C_below HL.out HB.out) hlt
              obtain ⟨x, hx⟩ : ∃ x, x = ldAt l k := ⟨_, rfl⟩
              have hwfx := HWF.out _ (ldAt_mem l k hlt)
              rw [← hx] at hc0 hc1 hc2 hwfx
              have k0 : (0 : Int) ≤ k := by omega
              have k1 : (k : Int) < l.length := by omega
              have HLT := Lib.hid hlt
              have HX := Lib.hid hx
              obtain ⟨xs, xn, xw⟩ := x
              simp only [] at hc0 hc1 hc2 hwfx
              have HXW := Lib.hid hwfx
              obtain ⟨c0, hc⟩ : ∃ c0 : Int, c0 = if xs ∈ (l.take k).map Ld.sub then 1 else 0 := ⟨_, rfl⟩
              have HC0 := Lib.hid hc
              have cb0 : 0 ≤ c0 := by rw [hc]; split <;> omega
              have cb1 : c0 ≤ 1 := by rw [hc]; split <;> omega
              clear hlt hx hwfx hc
              go_upto_region 15 with (fail)
              obtain ⟨w0, hw0⟩ : ∃ w0, w0 = wr.alloc (.cells #[.int .i64 xs, .int .i64 xn, .int .i64 xw] 55) := ⟨_, rfl⟩
              rw [← hw0]
              have HBX := Aside0.mk (show w0.heap[wr.heap.size]? = some (.cells #[.int .i64 xs, .int .i64 xn, .int .i64 xw] 55 (0, 0)) by rw [hw0]; exact heap_alloc_new _ _)
              have HB0 := Aside0.mk (show Below wr.heap.size wr w0 by rw [hw0]; exact below_alloc (Below.refl _ _) _)
              have HBW := Aside0.mk (below_step HB.out HB0.out)
              have HK0 := Aside0.mk (show Keys w0 w.heap.size ((l.take k).map Ld.sub) by rw [hw0]; exact HK.out.alloc _)
              have HSZ0 := Lib.hid (show w0.heap.size = wr.heap.size + 1 by rw [hw0]; exact Array.size_push _)
              clear hw0 hc0 hc1 hc2
              have b0 : w0.cell? ⟨wr.heap.size, 0, none⟩ = some (.int .i64 xs) := by unfold World.cell?; rw [HBX.out]; rfl
              have hlook := HK0.out.look HXW.out
              rw [← HC0.out] at hlook
              go_upto_region 16 with (at_mapUpdate; refine wpList_bump _ rfl _ _ _ rfl w.heap.size ((l.take k).map Ld.sub) xs c0 rfl rfl rfl HK0.out HXW.out HC0.out (by have h1 := List.length_take_le k l; have h2 := HLEN.out; rw [List.length_map]; unfold maxLen; omega) ?_; intro w2 hl2 hk2 hg2; have HK2 := Lib.hid hk2; have HG2 := Lib.hid hg2; clear hk2 hg2 hlook b0)
              have HBX2 := Aside0.mk ((HG2.out.block wr.heap.size (by rw [HSZ0.out]; omega) (fun e => by injection e with e; have := HK.out.lt; omega)).trans HBX.out)
              have HBW2 := Aside0.mk (HBW.out.grown HG2.out HBW.out.size (fun k e => by injection e with e; omega))
              have b0 : w2.cell? ⟨wr.heap.size, 0, none⟩ = some (.int .i64 xs) := by unfold World.cell?; rw [HBX2.out]; rfl
              have b1 : w2.cell? ⟨wr.heap.size, 1, none⟩ = some (.int .i64 xn) := by unfold World.cell?; rw [HBX2.out]; rfl
              have b2 : w2.cell? ⟨wr.heap.size, 2, none⟩ = some (.int .i64 xw) := by unfold World.cell?; rw [HBX2.out]; rfl
              by_cases hin : xn ∈ nodes
              · have HIN := Lib.hid (show decide (xn ∈ nodes) = true by simpa using hin)
                have HIN2 := Lib.hid hin
                clear hin
                by_cases e1 : xw < 0
                · have e1b : decide (xw < 0) = true := by simpa using e1
                  have HERR := Lib.hid (ldErrs_end HER.out HLT.out (e := .at_ 2 k 1) (by unfold ldErr; rw [← HX.out, if_neg (by simpa using HIN2.out), if_pos (Or.inl e1)]) (by simp))
                  clear e1
                  go_wp2_with (first
                    | (go_at_call 28; refine (contains_calls _ _ _ nodes _ (Kd.C_below HR.out HBW2.out)).mono ?_; rintro e w3 ⟨rfl, rfl⟩; rw [HIN.out])
                    | (go_at_call 29; refine (faultAt_calls _ 2 k 1).mono ?_; rintro e w3 ⟨v, rfl, hv, hb⟩; have HV := Aside0.mk hv; have HBF := Aside0.mk hb; clear hv hb))
                  go_ret
                  exact ⟨_, rfl, by rw [HN.out, HERR.out]; exact IsEr.lower (er := .at_ 2 k 1) HV.out HBW2.out.size, below_step HBW2.out HBF.out⟩
                · have e1b : decide (xw < 0) = false := by simpa using e1
                  by_cases e2 : xw > 1000000
                  · have e2b : decide (xw > 1000000) = true := by simpa using e2
                    have HERR := Lib.hid (ldErrs_end HER.out HLT.out (e := .at_ 2 k 1) (by unfold ldErr; rw [← HX.out, if_neg (by simpa using HIN2.out), if_pos (Or.inr e2)]) (by simp))
                    clear e1 e2
                    go_wp2_with (first
                      | (go_at_call 28; refine (contains_calls _ _ _ nodes _ (Kd.C_below HR.out HBW2.out)).mono ?_; rintro e w3 ⟨rfl, rfl⟩; rw [HIN.out])
                      | (go_at_call 29; refine (faultAt_calls _ 2 k 1).mono ?_; rintro e w3 ⟨v, rfl, hv, hb⟩; have HV := Aside0.mk hv; have HBF := Aside0.mk hb; clear hv hb))
                    go_ret
                    exact ⟨_, rfl, by rw [HN.out, HERR.out]; exact IsEr.lower (er := .at_ 2 k 1) HV.out HBW2.out.size, below_step HBW2.out HBF.out⟩
                  · have e2b : decide (xw > 1000000) = false := by simpa using e2
                    have HWW := Lib.hid (show ¬ (xw < 0 ∨ 1000000 < xw) by omega)
                    clear e1 e2
                    by_cases e3 : xs ∈ (l.take k).map Ld.sub
                    · have e3b : decide (c0 + 1 > 1) = true := by rw [HC0.out, if_pos e3]; decide
                      have HERR := Lib.hid (ldErrs_end HER.out HLT.out (e := .at_ 2 k 9) (by unfold ldErr; rw [← HX.out, if_neg (by simpa using HIN2.out), if_neg HWW.out, if_pos e3]) (by simp))
                      clear e3
                      go_wp2_with (first
                        | (go_at_call 28; refine (contains_calls _ _ _ nodes _ (Kd.C_below HR.out HBW2.out)).mono ?_; rintro e w3 ⟨rfl, rfl⟩; rw [HIN.out])
                        | (go_at_call 29; refine (faultAt_calls _ 2 k 9).mono ?_; rintro e w3 ⟨v, rfl, hv, hb⟩; have HV := Aside0.mk hv; have HBF := Aside0.mk hb; clear hv hb))
                      go_ret
                      exact ⟨_, rfl, by rw [HN.out, HERR.out]; exact IsEr.lower (er := .at_ 2 k 9) HV.out HBW2.out.size, below_step HBW2.out HBF.out⟩
                    · have e3b : decide (c0 + 1 > 1) = false := by rw [HC0.out, if_neg e3]; decide
                      have HST := Lib.hid (show ldErrs nodes l (k + 1) = .ok by rw [ldErrs_step HER.out]; unfold ldErr; rw [← HX.out, if_neg (by simpa using HIN2.out), if_neg HWW.out, if_neg e3])
                      have HK3 := Aside0.mk (show Keys w2 w.heap.size ((l.take (k + 1)).map Ld.sub) by rw [take_ld l k HLT.out, List.map_append, ← HX.out]; exact HK2.out e3)
                      clear e3
                      go_wp2_with (go_at_call 28; refine (contains_calls _ _ _ nodes _ (Kd.C_below HR.out HBW2.out)).mono ?_; rintro e w3 ⟨rfl, rfl⟩; rw [HIN.out])
                      go_roundw
                      case rel => exact ⟨k + 1, by go_num, by have := HLT.out; omega, HK3, HBW2, HST⟩
                      case measure => have := HLT.out; simp [intOf]; omega
              · have HIN := Lib.hid (show decide (xn ∈ nodes) = false by simpa using hin)
                have HERR := Lib.hid (ldErrs_end HER.out HLT.out (e := .at_ 2 k 12) (by unfold ldErr; rw [← HX.out, if_pos hin]) (by simp))
                clear hin
                go_wp2_with (first
                  | (go_at_call 28; refine (contains_calls _ _ _ nodes _ (Kd.C_below HR.out HBW2.out)).mono ?_; rintro e w3 ⟨rfl, rfl⟩; rw [HIN.out])
                  | (go_at_call 29; refine (faultAt_calls _ 2 k 12).mono ?_; rintro e w3 ⟨v, rfl, hv, hb⟩; have HV := Aside0.mk hv; have HBF := Aside0.mk hb; clear hv hb))
                go_ret
                exact ⟨_, rfl, by rw [HN.out, HERR.out]; exact IsEr.lower (er := .at_ 2 k 12) HV.out HBW2.out.size, below_step HBW2.out HBF.out⟩
            · have k1 : ¬ (k : Int) < l.length := by omega
              have hh : k = l.length := by omega
              have HH := Lib.hid hh
              clear hlt hh
              go_wp2
              go_ret
              exact ⟨_, rfl, by rw [HN.out, ← HH.out, HER.out]; exact rfl, HB.out⟩
end Go.Proofs.YthgfodfkjlpegaaDoor
