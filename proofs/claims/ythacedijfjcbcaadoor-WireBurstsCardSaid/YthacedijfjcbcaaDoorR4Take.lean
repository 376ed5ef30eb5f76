/- The document's TakeUint. -/
import Derived.Test.YthacedijfjcbcaaDoorEr
import Derived.Test.YthacedijfjcbcaaDoorWTake2
namespace Go.Proofs.YthacedijfjcbcaaDoor
open Go.RowKit Go.Proofs.YthacedijfjcbcaaDoorW.PrintWords Go.Proofs.YthacedijfjcbcaaDoorW.PrintLast Go.Proofs.YthacedijfjcbcaaDoorW.PrintMore
set_option linter.unusedVariables false
set_option linter.unusedSimpArgs false
def Er.bad : Er → Bool
  | .ok => false
  | _ => true
theorem Er.bad_false {er : Er} (h : er.bad = false) : er = .ok := by
  cases er with
  | ok => rfl
  | num c => cases h
  | at_ kind k c => cases h
/-- An error told plainly, laid open. -/
theorem IsE.open_ {w : World} {er : Er} {v : Value} (h : IsE w er v) : ∃ A n c cd, v = .agg #[.bool er.bad, .slice A n c, .int .i64 cd] := by
  cases er with
  | ok => exact ⟨_, _, _, _, h⟩
  | num c => exact ⟨_, _, _, _, h⟩
  | at_ kind k c => obtain ⟨g, cap, rfl, _, _⟩ := h; exact ⟨_, _, _, _, rfl⟩
theorem IsE.open_bad {w : World} {er : Er} {v : Value} (h : IsE w er v) (hb : er.bad = true) : ∃ A n c cd, v = .agg #[.bool true, .slice A n c, .int .i64 cd] := by
  obtain ⟨A, n, c, cd, e⟩ := h.open_
  rw [hb] at e
  exact ⟨A, n, c, cd, e⟩
theorem E_cells {W : World} {g : Nat} {a b c : Value} {t : Nat} {x : Nat × Nat} (h : W.heap[g]? = some (.cells #[a, b, c] t)) :
    (W.cell? ⟨g, 0, none⟩ = some a ∧ W.cell? ⟨g, 1, none⟩ = some b ∧ W.cell? ⟨g, 2, none⟩ = some c) ∧ W.frozen? ⟨g, 0, none⟩ = false ∧ W.frozen? ⟨g, 1, none⟩ = false ∧ W.frozen? ⟨g, 2, none⟩ = false := by
  unfold World.cell? World.frozen?
  rw [h]
  exact ⟨⟨rfl, rfl, rfl⟩, rfl, rfl, rfl⟩
theorem E_put {W : World} {g : Nat} {a b c : Value} {t : Nat} (h : W.heap[g]? = some (.cells #[a, b, c] t)) (a' b' c' : Value) :
    (((W.setCell ⟨g, 0, none⟩ a').setCell ⟨g, 1, none⟩ b').setCell ⟨g, 2, none⟩ c').heap[g]? = some (.cells #[a', b', c'] t) := blk_set (blk_set (blk_set h 0 a') 1 b') 2 c'
theorem IsE.set {W : World} {er : Er} {v : Value} (h : IsE W er v) {g j : Nat} (hg : ∀ k, W.cell? ⟨g, 0, none⟩ ≠ some (.int .i64 k)) (u : Value) : IsE (W.setCell ⟨g, j, none⟩ u) er v := by
  cases er with
  | ok => exact h
  | num c => exact h
  | at_ kind k c =>
    obtain ⟨g1, cap, rfl, h1, h2⟩ := h
    have hne : g1 ≠ g := by rintro rfl; exact hg _ h1
    refine ⟨g1, cap, rfl, ?_, ?_⟩
    · rw [← h1]; unfold World.cell?; rw [Below.heap_setCell _ _ _ _ (by exact hne)]
    · rw [← h2]; unfold World.cell?; rw [Below.heap_setCell _ _ _ _ (by exact hne)]
/-- An error told plainly stands as it was behind the store of a result. -/
theorem IsE.put {W : World} {er : Er} {v : Value} (h : IsE W er v) {g : Nat} {x : Bool} {b c : Value} {t : Nat} (hz : W.heap[g]? = some (.cells #[.bool x, b, c] t)) (a' : Bool) (b' c' : Value) :
    IsE (((W.setCell ⟨g, 0, none⟩ (.bool a')).setCell ⟨g, 1, none⟩ b').setCell ⟨g, 2, none⟩ c') er v := by
  have q : ∀ (V : World) (y : Bool) (b c : Value), V.heap[g]? = some (.cells #[.bool y, b, c] t) → ∀ k, V.cell? ⟨g, 0, none⟩ ≠ some (.int .i64 k) := fun V y b c hV k hk => by
    unfold World.cell? at hk; rw [hV] at hk; cases hk
  have h1 := blk_set hz 0 (.bool a')
  have h2 := blk_set h1 1 b'
  exact ((h.set (q _ _ _ _ hz) _).set (q _ _ _ _ h1) _).set (q _ _ _ _ h2) _
theorem below_put {w W : World} {g : Nat} (h : Below w.heap.size w W) (hg : w.heap.size ≤ g) (a b c : Value) : Below w.heap.size w (((W.setCell ⟨g, 0, none⟩ a).setCell ⟨g, 1, none⟩ b).setCell ⟨g, 2, none⟩ c) := below_set (below_set (below_set h hg) hg) hg
def RTakeUPost (w : World) (b : List UInt8) (from_ : Int) (e : Ending) (w' : World) : Prop :=
  ∃ v, e = .returned (.tuple #[.int .u64 ((takeU b from_).1 : Nat), .int .i64 (takeU b from_).2.1, v]) ∧ IsE w' (takeU b from_).2.2 v ∧ Below w.heap.size w w'
set_option maxRecDepth 100000 in
set_option maxHeartbeats 2000000 in
theorem refTakeUint_num (w : World) (A : Option Addr) (c : Nat) (b : List UInt8) (from_ : Int) (h : from_ < 0 ∨ (b.length : Int) < from_) :
    Calls Tryd.prog 26 #[.slice A b.length c, .int .i64 from_] w (RTakeUPost w b from_) := by
  have HE := Lib.hid (show takeU b from_ = (0, 0, .num 1) by unfold takeU; rw [if_neg (by omega)])
  by_cases h0 : from_ < 0
  · clear h
    go_enter Tryd.func26, Tryd.ntmps26
    go_wp2_with (go_at_call 13; refine (refN_calls _ 1).mono ?_; rintro e w1 ⟨rfl, rfl⟩)
    (try simp only [Exit.inBlock, Exit.then])
    refine bodyPost_ret (v := .tuple #[.int .u64 0, .int .i64 0, .agg #[.bool true, .slice none 0 0, .int .i64 1]]) (by simp [results, Tryd.results26, go_sem]) rfl ?_
    unfold RTakeUPost
    rw [HE.out]
    refine ⟨_, rfl, rfl, ?_⟩
    repeat (first | exact Below.refl _ _ | refine below_set ?_ (Nat.le_refl _) | refine below_alloc ?_ _)
  · have h1 : (b.length : Int) < from_ := by omega
    clear h
    go_enter Tryd.func26, Tryd.ntmps26
    go_wp2_with (go_at_call 13; refine (refN_calls _ 1).mono ?_; rintro e w1 ⟨rfl, rfl⟩)
    (try simp only [Exit.inBlock, Exit.then])
    refine bodyPost_ret (v := .tuple #[.int .u64 0, .int .i64 0, .agg #[.bool true, .slice none 0 0, .int .i64 1]]) (by simp [results, Tryd.results26, go_sem]) rfl ?_
    unfold RTakeUPost
    rw [HE.out]
    refine ⟨_, rfl, rfl, ?_⟩
    repeat (first | exact Below.refl _ _ | refine below_set ?_ (Nat.le_refl _) | refine below_alloc ?_ _)
theorem addShift (x n k : Nat) (hx : x < 2 ^ (7 * k)) (hk : k ≤ 9) (hn : n < 256) (h9 : ¬ (k = 9 ∧ 1 < n ∨ 0 < k ∧ n = 0)) :
    IntKind.u64.wrap ((x : Int) + IntKind.u64.wrap ((n : Int) % 128 * 2 ^ (7 * k))) = ((x + n % 128 * 2 ^ (7 * k) : Nat) : Int) := by
  have hm : n % 128 * 2 ^ (7 * k) < 9223372036854775809 := by
    rcases Nat.lt_or_ge k 9 with h | h
    · have h1 : n % 128 * 2 ^ (7 * k) ≤ 127 * 2 ^ 56 := Nat.mul_le_mul (by omega) (Nat.pow_le_pow_right (by omega) (by omega))
      omega
    · obtain rfl : k = 9 := by omega
      have h1 : n % 128 * 2 ^ (7 * 9) ≤ 1 * 2 ^ 63 := Nat.mul_le_mul (by omega) (Nat.pow_le_pow_right (by omega) (by omega))
      omega
  have hx2 : x < 9223372036854775808 := by
    have : 2 ^ (7 * k) ≤ 2 ^ 63 := Nat.pow_le_pow_right (by omega) (by omega)
    omega
  have e1 : ((n : Int) % 128 * 2 ^ (7 * k)) = ((n % 128 * 2 ^ (7 * k) : Nat) : Int) := by simp
  rw [e1, IntKind.wrap_u64, IntKind.wrap_u64]
  omega
set_option maxRecDepth 100000 in
set_option maxHeartbeats 2000000 in
theorem refTakeUint_calls (w : World) (A : Option Addr) (c : Nat) (b : List UInt8) (from_ : Int) (hx : kB.C w A b.length b) (hl : b.length ≤ 1099511627776) :
    Calls Tryd.prog 26 #[.slice A b.length c, .int .i64 from_] w (RTakeUPost w b from_) := by
  by_cases hr : from_ < 0 ∨ (b.length : Int) < from_
  · exact refTakeUint_num w A c b from_ hr
  have HX := Lib.hid hx
  have hl1 : (b.length : Int) ≤ 1099511627776 := by omega
  clear hx
  obtain ⟨f, rfl⟩ := Int.eq_ofNat_of_zero_le (show 0 ≤ from_ by omega)
  have hf : f ≤ b.length := by omega
  have HE := Lib.hid (show takeU b (f : Int) = match tkU (b.drop f) 0 0 with | .ok x n => (x, (f : Int) + n, .ok) | .form i => (0, 0, .at_ 1 ((f : Int) + i) 3) | .short => (0, 0, .at_ 1 b.length 6) by
    unfold takeU; rw [if_pos (by omega)]; rfl)
  have HF := Lib.hid hf
  have d1 : decide ((f : Int) < 0) = false := by simp
  have d2 : decide (b.length < f) = false := by simp; omega
  have f0 : (0 : Int) ≤ f := by omega
  have f1 : (f : Int) ≤ b.length := by omega
  clear hr hf hl
  go_enter Tryd.func26, Tryd.ntmps26
  go_wp2
  go_loop [7, 8] (fun v7 v => ∃ (k x : Nat), v = .int .i64 k ∧ f + k ≤ b.length ∧ v7 = .int .u64 x ∧ Hid (tkU (b.drop f) 0 0 = tkU ((b.drop f).drop k) k x ∧ k ≤ 9 ∧ x < 2 ^ (7 * k))) (fun _ v => b.length - (intOf v).toNat)
  case atStart => exact ⟨0, 0, rfl, HF.out, rfl, ⟨rfl, by omega, by decide⟩⟩
  case round =>
    obtain ⟨k, x, rfl, hk, rfl, ht⟩ := hrel
    obtain ⟨j, hj⟩ : ∃ j : Nat, j = f + k := ⟨_, rfl⟩
    have hji : (f : Int) + (k : Int) = (j : Int) := by omega
    have k0 : (0 : Int) ≤ k := by omega
    have j0 : (0 : Int) ≤ j := by omega
    have HJ := Lib.hid hj
    by_cases hlt : j < b.length
    · obtain ⟨ad, rfl, hcell0⟩ := B_cell HX.out hlt
      have hcell : ∀ o, (w.alloc o).cell? (ad.add j) = some (.int .u8 ((gb b j).toNat : Int)) := fun o => by rw [World.cell?_alloc_lt _ _ _ (World.block_lt_of_cell? _ _ hcell0)]; exact hcell0
      have j1 : (j : Int) < b.length := by omega
      have j2 : ¬ (b.length : Int) ≤ (j : Int) := by omega
      obtain ⟨d, hd⟩ : ∃ d, d = gb b j := ⟨_, rfl⟩
      rw [← hd] at hcell
      obtain ⟨n, hn⟩ : ∃ n, n = d.toNat := ⟨_, rfl⟩
      rw [← hn] at hcell
      have hn8 : n < 256 := by rw [hn]; exact d.toNat_lt
      have n1 : (n : Int) ≤ 255 := by omega
      have n0 : (0 : Int) ≤ n := by omega
      have k9 : (k : Int) ≤ 9 := by have := ht.out.2.1; omega
      have HS := Lib.hid (show tkU ((b.drop f).drop k) k x = if (k = 9 ∧ 1 < n) ∨ (0 < k ∧ n = 0) then .form k else if n < 128 then .ok (x + n % 128 * 2 ^ (7 * k)) (k + 1) else tkU ((b.drop f).drop (k + 1)) (k + 1) (x + n % 128 * 2 ^ (7 * k)) by
        rw [List.drop_drop, List.drop_drop, show f + (k + 1) = (f + k) + 1 by omega, ← HJ.out, List.drop_eq_getElem_cons hlt, hn, hd, gb_get b j hlt]
        rfl)
      have HL := Lib.hid hlt
      clear hlt hd hn hcell0 hj
      go_upto_region 9 with (fail)
      obtain ⟨B, hB⟩ : ∃ B : Bool, B = decide ((k = 9 ∧ 1 < n) ∨ (0 < k ∧ n = 0)) := ⟨_, rfl⟩
      have HB := Lib.hid hB
      clear hB
      go_cut [49] (fun s49 wx => s49 = .bool B ∧ wx = (w.alloc (.cells #[.bool false, .slice none 0 0, .int .i64 0] 35)))
      case first =>
        by_cases e1 : k = 9
        · have b1 : ((k : Int) == 9) = true := beq_iff_eq.2 (by omega)
          have d3 : decide (0 < k) = true := decide_eq_true (by omega)
          by_cases e2 : 1 < n
          · have e2' : (1 : Int) < n := by omega
            have HV := Lib.hid (show B = true by rw [HB.out, decide_eq_true_iff]; omega)
            clear e1 e2
            go_wp2
            go_meet
            case rel => rw [HV.out]; exact ⟨rfl, rfl⟩
          · have e2' : ¬ (1 : Int) < n := by omega
            by_cases e4 : n = 0
            · have b4 : ((n : Int) == 0) = true := beq_iff_eq.2 (by omega)
              have HV := Lib.hid (show B = true by rw [HB.out, decide_eq_true_iff]; omega)
              clear e1 e2 e4
              go_wp2
              go_meet
              case rel => rw [HV.out]; exact ⟨rfl, rfl⟩
            · have b4 : ((n : Int) == 0) = false := beq_eq_false_iff_ne.2 (by omega)
              have HV := Lib.hid (show B = false by rw [HB.out, decide_eq_false_iff_not]; omega)
              clear e1 e2 e4
              go_wp2
              go_meet
              case rel => rw [HV.out]; exact ⟨rfl, rfl⟩
        · have b1 : ((k : Int) == 9) = false := beq_eq_false_iff_ne.2 (by omega)
          by_cases e4 : n = 0
          · have b4 : ((n : Int) == 0) = true := beq_iff_eq.2 (by omega)
            by_cases e3 : 0 < k
            · have d3 : decide (0 < k) = true := decide_eq_true e3
              have HV := Lib.hid (show B = true by rw [HB.out, decide_eq_true_iff]; omega)
              clear e1 e3 e4
              go_wp2
              go_meet
              case rel => rw [HV.out]; exact ⟨rfl, rfl⟩
            · have d3 : decide (0 < k) = false := decide_eq_false e3
              have HV := Lib.hid (show B = false by rw [HB.out, decide_eq_false_iff_not]; omega)
              clear e1 e3 e4
              go_wp2
              go_meet
              case rel => rw [HV.out]; exact ⟨rfl, rfl⟩
          · have b4 : ((n : Int) == 0) = false := beq_eq_false_iff_ne.2 (by omega)
            have HV := Lib.hid (show B = false by rw [HB.out, decide_eq_false_iff_not]; omega)
            clear e1 e4
            go_wp2
            go_meet
            case rel => rw [HV.out]; exact ⟨rfl, rfl⟩
      case rest =>
        obtain ⟨rfl, hwc⟩ := hcut
        subst hwc
        cases B with
        | true =>
          have hd := of_decide_eq_true HB.out.symm
          have HV := Lib.hid (show takeU b (f : Int) = (0, 0, .at_ 1 (j : Int) 3) by rw [HE.out, ht.out.1, HS.out, if_pos hd]; simp only []; rw [hji])
          clear hd HB HS
          go_wp2_with (go_at_call 41; refine (refat_calls _ _ _).mono ?_; rintro e w1 ⟨v, rfl, hv, hb⟩; obtain ⟨A1, n1, c1, cd1, rfl⟩ := hv.open_bad rfl; have hz := (hb.block _ (by rw [alloc_size]; exact Nat.lt_succ_self _)).trans (heap_alloc_new w _); obtain ⟨⟨z0, z1, z2⟩, z3, z4, z5⟩ := E_cells (x := (0, 0)) hz; have HVV := Aside0.mk hv; have HB := Aside0.mk (below_first hb); have HZ := Aside0.mk hz; clear hv hb hz)
          (try simp only [Exit.inBlock, Exit.then])
          obtain ⟨⟨y0, y1, y2⟩, _⟩ := E_cells (x := (0, 0)) (E_put HZ.out (.bool true) (.slice A1 n1 c1) (.int .i64 cd1))
          refine bodyPost_ret (v := .tuple #[.int .u64 0, .int .i64 0, .agg #[.bool true, .slice A1 n1 c1, .int .i64 cd1]]) (by simp [results, Tryd.results26, go_sem, y0, y1, y2]) rfl ?_
          unfold RTakeUPost
          rw [HV.out]
          exact ⟨_, rfl, HVV.out.put HZ.out _ _ _, below_put HB.out (Nat.le_refl _) _ _ _⟩
        | false =>
          have hd := of_decide_eq_false HB.out.symm
          have HD2 := Lib.hid hd
          clear hd HB
          have HO := Lib.hid (addShift x n k ht.out.2.2 ht.out.2.1 hn8 HD2.out)
          by_cases hs : n < 128
          · have n2 : (n : Int) < 128 := by omega
            have HV := Lib.hid (show takeU b (f : Int) = (x + n % 128 * 2 ^ (7 * k), (f : Int) + (k + 1 : Nat), .ok) by rw [HE.out, ht.out.1, HS.out, if_neg HD2.out, if_pos hs])
            clear hs HS
            go_wp2
            (try simp only [Exit.inBlock, Exit.then])
            have ho := HO.out
            refine bodyPost_ret (v := .tuple #[.int .u64 ((x + n % 128 * 2 ^ (7 * k) : Nat) : Int), .int .i64 ((j : Int) + 1), .agg #[.bool false, .slice none 0 0, .int .i64 0]]) ?_ rfl ?_
            · simp only [ho]
              simp [results, Tryd.results26, go_sem]
            · unfold RTakeUPost
              rw [HV.out, show (f : Int) + (k + 1 : Nat) = (j : Int) + 1 by omega]
              exact ⟨_, rfl, rfl, by repeat (first | exact Below.refl _ _ | refine below_set ?_ (Nat.le_refl _) | refine below_alloc ?_ _)⟩
          · have n2 : ¬ (n : Int) < 128 := by omega
            have HV := Lib.hid (show tkU (b.drop f) 0 0 = tkU ((b.drop f).drop (k + 1)) (k + 1) (x + n % 128 * 2 ^ (7 * k)) by rw [ht.out.1, HS.out, if_neg HD2.out, if_neg hs])
            have HN := Lib.hid hs
            clear hs HS
            go_wp2
            go_round
            case rel =>
              refine ⟨k + 1, x + n % 128 * 2 ^ (7 * k), by go_num, by have := HL.out; have := HJ.out; omega, u64_eq HO.out, HV.out, ?_, ?_⟩
              · have := HD2.out; have := HN.out; have := ht.out.2.1; omega
              · have e : 7 * (k + 1) = 7 * k + 7 := by omega
                rw [e, Nat.pow_add]
                have h1 : n % 128 * 2 ^ (7 * k) ≤ 127 * 2 ^ (7 * k) := Nat.mul_le_mul_right _ (by omega)
                have h2 := ht.out.2.2
                omega
            case measure => have := HL.out; have := HJ.out; simp [intOf]; omega
    · have j1 : (b.length : Int) ≤ (j : Int) := by omega
      have HV := Lib.hid (show takeU b (f : Int) = (0, 0, .at_ 1 b.length 6) by rw [HE.out, ht.out.1, List.drop_drop, List.drop_of_length_le (by omega)]; rfl)
      clear hlt hj
      go_wp2_with (go_at_call 41; refine (refat_calls _ _ _).mono ?_; rintro e w1 ⟨v, rfl, hv, hb⟩; obtain ⟨A1, n1, c1, cd1, rfl⟩ := hv.open_bad rfl; have hz := (hb.block _ (by rw [alloc_size]; exact Nat.lt_succ_self _)).trans (heap_alloc_new w _); obtain ⟨⟨z0, z1, z2⟩, z3, z4, z5⟩ := E_cells (x := (0, 0)) hz; have HVV := Aside0.mk hv; have HB := Aside0.mk (below_first hb); have HZ := Aside0.mk hz; clear hv hb hz)
      (try simp only [Exit.inBlock, Exit.then])
      obtain ⟨⟨y0, y1, y2⟩, _⟩ := E_cells (x := (0, 0)) (E_put HZ.out (.bool true) (.slice A1 n1 c1) (.int .i64 cd1))
      refine bodyPost_ret (v := .tuple #[.int .u64 0, .int .i64 0, .agg #[.bool true, .slice A1 n1 c1, .int .i64 cd1]]) (by simp [results, Tryd.results26, go_sem, y0, y1, y2]) rfl ?_
      unfold RTakeUPost
      rw [HV.out]
      exact ⟨_, rfl, HVV.out.put HZ.out _ _ _, below_put HB.out (Nat.le_refl _) _ _ _⟩
end Go.Proofs.YthacedijfjcbcaaDoor
