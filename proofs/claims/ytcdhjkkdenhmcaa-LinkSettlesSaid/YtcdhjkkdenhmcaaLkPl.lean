/- link: few; a list of steps; a side stored whole. -/
import Derived.Test.YtcdhjkkdenhmcaaLkRi
namespace Go.Proofs.Ytcdhjkkdenhmcaa
open Go.RowKit Go.Proofs.YtcdhjkkdenhmcaaW.PrintWords Go.Proofs.YtcdhjkkdenhmcaaW.PrintLast Go.Proofs.YtcdhjkkdenhmcaaW.PrintMore
set_option linter.unusedVariables false
set_option linter.unusedSimpArgs false
section
variable {ops : Array Oper} {rest : List Oper} {o : Oper} {a : Act} {Q : Exit → Act → World → Prop} {W : World}
/-- A side is stored whole: the world behind it gets a name. -/
theorem store7 (hN : o.dst = none) (hgd : o.guard = none) (p x : Operand) (ho : o.op = .store 43 p x) (s : Sd) (pp : Nat) (Au Ao Ai : Option Addr) (cu co ci : Nat) {g : Nat} {b0 b1 b2 b3 b4 b5 b6 : Value}
    (haddr : a.eval p = .pointer (some ⟨g, 0, none⟩)) (hx : a.eval x = .agg (sdC s pp Au cu Ao co Ai ci)) (hh : W.heap[g]? = some (.cells #[b0, b1, b2, b3, b4, b5, b6] 43 (0, 0)))
    (h : ∀ w1 : World, w1.heap[g]? = some (.cells (sdC s pp Au cu Ao co Ai ci) 43 (0, 0)) → (∀ k : Nat, k ≠ g → w1.heap[k]? = W.heap[k]?) → w1.heap.size = W.heap.size → (∀ B, B ≤ g → Below B W w1) → wpList Try.prog ops Q rest a w1) : wpList Try.prog ops Q (o :: rest) a W := by
  refine wpList_plain hgd fun K hK => ?_
  have hrun : (Instr.storeAt 43 (.pointer (some ⟨g, 0, none⟩)) (.agg (sdC s pp Au cu Ao co Ai ci))).run Try.prog W = .ok () (W.setCells g 0 (sdC s pp Au cu Ao co Ai ci).toList) := by
    refine run_store_run 43 _ (sdC s pp Au cu Ao co Ai ci).toList hh ?_ (by kernel_rfl) (by simp) (fun q hq => ?_)
    · simp [Value.cells]
    · simp only [List.mem_cons, List.not_mem_nil, or_false] at hq
      rcases hq with rfl | rfl | rfl | rfl | rfl | rfl | rfl <;> rfl
  unfold Oper.wp execOp
  simp only [ho, haddr, hx, Sem.run_bind, Sem.run_pure, Result.andThen_ok, hrun]
  show K (a.put o.dst undef) _
  rw [hN]
  exact hK a _ (h (put7 W g _ _ _ _ _ _ _) (put7_at hh _ _ _ _ _ _ _) (fun k hk => put7_ne _ hk _ _ _ _ _ _ _) (put7_size _ _ _ _ _ _ _ _ _) (fun B hB => put7_below (Below.refl _ _) hB _ _ _ _ _ _ _))
end
/-- A step: kind, who, k, n, the bytes. -/
abbrev OpM : Type := Int × Int × Int × Int × List UInt8
def kOp : Kd OpM := Kd.pair (Kd.int .i64) (Kd.pair (Kd.int .i64) (Kd.pair (Kd.int .i64) (Kd.pair (Kd.int .i64) (Kd.slice 5 kB))))
def go_ (l : List OpM) (k : Nat) : OpM := l.getD k (0, 0, 0, 0, [])
theorem go_mem {l : List OpM} {k : Nat} (h : k < l.length) : go_ l k ∈ l := by
  unfold go_
  rw [List.getD_eq_getElem?_getD, List.getElem?_eq_getElem h]
  exact List.getElem_mem h
theorem add5 (ad : Addr) (k j : Nat) (hj : 0 < j) : ad.add (k * 5 + j) = ⟨(ad.add (k * 5)).block, (ad.add (k * 5)).off + j, none⟩ := by
  unfold Addr.add
  by_cases hk0 : k * 5 = 0
  · rw [hk0, if_neg (by omega), if_pos rfl, Nat.zero_add]
  · rw [if_neg (by omega), if_neg hk0, Nat.add_assoc]
theorem OP_cell {w : World} {ok : Nat → Prop} {A : Option Addr} {l : List OpM} (h : Kd.F kOp w ok A l.length l) {k : Nat} (hk : k < l.length) :
    ∃ ad B d, A = some ad ∧ w.cell? (ad.add (k * 5)) = some (.int .i64 (go_ l k).1) ∧ w.cell? ⟨(ad.add (k * 5)).block, (ad.add (k * 5)).off + 1, none⟩ = some (.int .i64 (go_ l k).2.1) ∧ w.cell? ⟨(ad.add (k * 5)).block, (ad.add (k * 5)).off + 2, none⟩ = some (.int .i64 (go_ l k).2.2.1) ∧
      w.cell? ⟨(ad.add (k * 5)).block, (ad.add (k * 5)).off + 3, none⟩ = some (.int .i64 (go_ l k).2.2.2.1) ∧ w.cell? ⟨(ad.add (k * 5)).block, (ad.add (k * 5)).off + 4, none⟩ = some (.slice B (go_ l k).2.2.2.2.length d) ∧ (go_ l k).2.2.2.2.length ≤ d ∧ Kd.F kB w ok B (go_ l k).2.2.2.2.length (go_ l k).2.2.2.2 := by
  obtain ⟨ad, c, e, hcl, hK, hc, _⟩ := Kd.F_get h ((0, 0, 0, 0, []) : OpM) (k : Int) (by omega) (by omega)
  have e2 : kOp.sz = 5 := rfl
  have eg : l.getD (k : Int).toNat ((0, 0, 0, 0, []) : OpM) = go_ l k := by rw [Int.toNat_natCast]; rfl
  rw [e2, Int.toNat_natCast] at hc
  rw [eg] at hK
  have op : ∀ W', kOp.K W' (go_ l k) c → ∃ B d, c = [.int .i64 (go_ l k).1, .int .i64 (go_ l k).2.1, .int .i64 (go_ l k).2.2.1, .int .i64 (go_ l k).2.2.2.1, .slice B (go_ l k).2.2.2.2.length d] ∧ (go_ l k).2.2.2.2.length ≤ d ∧ kB.C W' B (go_ l k).2.2.2.2.length (go_ l k).2.2.2.2 := fun W' hh => by
    obtain ⟨p0, q0, e0, h0, p1, q1, e1, h1, p2, q2, e2, h2, p3, q3, e3, h3, B, d, e4, hd, hC⟩ := hh
    have h0 : p0 = [.int .i64 (go_ l k).1] := h0
    have h1 : p1 = [.int .i64 (go_ l k).2.1] := h1
    have h2 : p2 = [.int .i64 (go_ l k).2.2.1] := h2
    have h3 : p3 = [.int .i64 (go_ l k).2.2.2.1] := h3
    subst h0 h1 h2 h3 e4 e3 e2 e1
    exact ⟨B, d, e0, hd, hC⟩
  obtain ⟨B, d, ec, hd, _⟩ := op w (Kd.FK_now hK)
  rw [ec] at hc
  refine ⟨ad, B, d, e, hc 0 _ rfl, ?_, ?_, ?_, ?_, hd, fun W' hW => ?_⟩
  · rw [← add5 ad k 1 (by decide)]; exact hc 1 _ rfl
  · rw [← add5 ad k 2 (by decide)]; exact hc 2 _ rfl
  · rw [← add5 ad k 3 (by decide)]; exact hc 3 _ rfl
  · rw [← add5 ad k 4 (by decide)]; exact hc 4 _ rfl
  · obtain ⟨B', d', ec', _, hC⟩ := op W' (hK W' hW)
    rw [ec] at ec'
    simp only [List.cons.injEq, and_true] at ec'
    injection ec'.2.2.2.2 with eb _ _
    subst eb
    exact hC
def FewPost (w : World) (wi : Int) (ops : List OpM) (e : Ending) (w' : World) : Prop := ∃ b, e = .returned (.bool b) ∧ (b = true → (∀ o ∈ ops, o.2.2.2.2.length ≤ 100) ∧ ops.length ≤ 120 ∧ 1 ≤ wi ∧ wi ≤ 64) ∧ Below w.heap.size w w'
set_option maxRecDepth 100000 in
set_option maxHeartbeats 2000000 in
theorem few_calls (w : World) (wi : Int) (A : Option Addr) (c : Nat) (ops : List OpM) (hx : Kd.F kOp w (fun k => k < w.heap.size) A ops.length ops) :
    Calls Try.prog 14 #[.int .i64 wi, .slice A ops.length c] w (FewPost w wi ops) := by
  have hm : (ops.length : Int) ≤ 9223372036854775807 := by have := Kd.F_max hx; omega
  have HX := Aside0.mk hx
  clear hx
  go_enter Try.func14, Try.ntmps14
  go_wp2
  go_loopw [9] (fun v wr => ∃ k : Nat, v = .int .i64 k ∧ Hid (k ≤ ops.length ∧ ∀ j, j < k → (go_ ops j).2.2.2.2.length ≤ 100) ∧ Aside0 (Below w.heap.size w wr)) (fun v _ => ops.length - (intOf v).toNat)
  case atStart => exact ⟨0, rfl, ⟨Nat.zero_le _, fun j hj => absurd hj (Nat.not_lt_zero _)⟩, ⟨Below.refl _ _⟩⟩
  case round =>
    obtain ⟨k, rfl, HK, HB⟩ := hrel
    by_cases hlt : k < ops.length
    · obtain ⟨ad, B, d, rfl, h0, h1, h2, h3, h4, hd, hF⟩ := OP_cell (Kd.F_step HX.out (fun k hk _ => HB.out.block k hk)) hlt
      have k0 : (0 : Int) ≤ k := by omega
      have k1 : (k : Int) < ops.length := by omega
      obtain ⟨q, hq⟩ : ∃ q, q = go_ ops k := ⟨_, rfl⟩
      rw [← hq] at h0 h1 h2 h3 h4 hd hF
      have HQ := Lib.hid hq
      have HLT := Lib.hid hlt
      have qm : (q.2.2.2.2.length : Int) ≤ 9223372036854775807 := by have := Kd.F_max hF; omega
      clear hF hd hq hlt
      by_cases g : (q.2.2.2.2.length : Int) > 100
      · have gc : decide ((q.2.2.2.2.length : Int) > 100) = true := decide_eq_true g
        go_wp2
        go_ret
        exact ⟨false, rfl, fun h => absurd h (by decide), below_alloc HB.out _⟩
      · have gc : decide ((q.2.2.2.2.length : Int) > 100) = false := decide_eq_false g
        have HG := Lib.hid (show q.2.2.2.2.length ≤ 100 by omega)
        go_wp2
        go_roundw
        case rel => exact ⟨k + 1, by go_num, ⟨HLT.out, fun j hj => by
          rcases Nat.lt_or_ge j k with h | h
          · exact HK.out.2 j h
          · have e : j = k := by omega
            rw [e, ← HQ.out]; exact HG.out⟩, ⟨below_alloc HB.out _⟩⟩
        case measure => have := HLT.out; simp [intOf]; omega
    · have k1 : ¬ (k : Int) < ops.length := by omega
      have HALL := Lib.hid (show ∀ o ∈ ops, o.2.2.2.2.length ≤ 100 from fun o ho => by
        obtain ⟨j, hj, rfl⟩ := List.getElem_of_mem ho
        have := HK.out.2 j (by have := HK.out.1; omega)
        unfold go_ at this
        rw [List.getD_eq_getElem?_getD, List.getElem?_eq_getElem hj] at this
        exact this)
      clear hlt
      by_cases g1 : (ops.length : Int) ≤ 120
      · by_cases g2 : wi ≥ 1
        · by_cases g3 : wi ≤ 64
          · have c1 : decide ((ops.length : Int) ≤ 120) = true := decide_eq_true g1
            have c2 : decide (wi ≥ 1) = true := decide_eq_true g2
            have c3 : decide (wi ≤ 64) = true := decide_eq_true g3
            have HE := Lib.hid (show ops.length ≤ 120 ∧ 1 ≤ wi ∧ wi ≤ 64 from ⟨by omega, g2, g3⟩)
            go_wp2
            go_ret
            exact ⟨true, rfl, fun _ => ⟨HALL.out, HE.out⟩, HB.out⟩
          · have c1 : decide ((ops.length : Int) ≤ 120) = true := decide_eq_true g1
            have c2 : decide (wi ≥ 1) = true := decide_eq_true g2
            have c3 : decide (wi ≤ 64) = false := decide_eq_false g3
            go_wp2
            go_ret
            exact ⟨false, rfl, fun h => absurd h (by decide), HB.out⟩
        · have c1 : decide ((ops.length : Int) ≤ 120) = true := decide_eq_true g1
          have c2 : decide (wi ≥ 1) = false := decide_eq_false g2
          go_wp2
          go_ret
          exact ⟨false, rfl, fun h => absurd h (by decide), HB.out⟩
      · have c1 : decide ((ops.length : Int) ≤ 120) = false := decide_eq_false g1
        go_wp2
        go_ret
        exact ⟨false, rfl, fun h => absurd h (by decide), HB.out⟩
end Go.Proofs.Ytcdhjkkdenhmcaa
