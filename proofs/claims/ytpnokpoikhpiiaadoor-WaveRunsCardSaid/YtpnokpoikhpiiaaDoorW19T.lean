/- The document's wave: whom it tells. -/
import Derived.Test.YtpnokpoikhpiiaaDoorW19A
namespace Go.Proofs.YtpnokpoikhpiiaaDoor
open Go.RowKit Go.Maps Go.Proofs.YtpnokpoikhpiiaaDoorW.PrintWords Go.Proofs.YtpnokpoikhpiiaaDoorW.PrintLast Go.Proofs.YtpnokpoikhpiiaaDoorW.PrintMore WvSim
set_option linter.unusedVariables false
set_option linter.unusedSimpArgs false
theorem M_cells {W : World} {g : Nat} {a b c d : Value} {t : Nat} (h : W.heap[g]? = some (.cells #[a, b, c, d] t)) :
    (W.cell? ⟨g, 0, none⟩ = some a ∧ W.cell? ⟨g, 1, none⟩ = some b ∧ W.cell? ⟨g, 2, none⟩ = some c ∧ W.cell? ⟨g, 3, none⟩ = some d) ∧ W.frozen? ⟨g, 0, none⟩ = false ∧ W.frozen? ⟨g, 1, none⟩ = false ∧ W.frozen? ⟨g, 2, none⟩ = false ∧ W.frozen? ⟨g, 3, none⟩ = false := by
  unfold World.cell? World.frozen?
  rw [h]
  exact ⟨⟨rfl, rfl, rfl, rfl⟩, rfl, rfl, rfl, rfl⟩
theorem M_put {W : World} {g : Nat} {a b c d : Value} {t : Nat} (h : W.heap[g]? = some (.cells #[a, b, c, d] t)) (a' b' c' d' : Value) :
    ((((W.setCell ⟨g, 0, none⟩ a').setCell ⟨g, 1, none⟩ b').setCell ⟨g, 2, none⟩ c').setCell ⟨g, 3, none⟩ d').heap[g]? = some (.cells #[a', b', c', d'] t) := blk_set (blk_set (blk_set (blk_set h 0 a') 1 b') 2 c') 3 d'
theorem below_put4 {w W : World} {g : Nat} (h : Below w.heap.size w W) (hg : w.heap.size ≤ g) (a b c d : Value) : Below w.heap.size w ((((W.setCell ⟨g, 0, none⟩ a).setCell ⟨g, 1, none⟩ b).setCell ⟨g, 2, none⟩ c).setCell ⟨g, 3, none⟩ d) := below_set (below_set (below_set (below_set h hg) hg) hg) hg
theorem R_far4 {W : World} {e base g : Nat} {ok : Nat → Prop} {v : Value} {xs : List Int} (h : (Kd.int .i64).R e W base ok v xs) (hg : ∀ q, ok q → q ≠ g) (a b c d : Value) :
    (Kd.int .i64).R e ((((W.setCell ⟨g, 0, none⟩ a).setCell ⟨g, 1, none⟩ b).setCell ⟨g, 2, none⟩ c).setCell ⟨g, 3, none⟩ d) base ok v xs :=
  Kd.R_far (Kd.R_far (Kd.R_far (Kd.R_far h hg _) hg _) hg _) hg _
/-- Is this neighbour ready, the first j looked at? -/
def rdy (nd : Nd) (n : Int) (j : Nat) : Bool := (nd.bg && !decide (n ∈ nd.told)) && decide (∀ i, i < j → rd nd.near i = n ∨ rd nd.near i ∈ nd.heard)
theorem rdy_step (nd : Nd) (n : Int) (j : Nat) : rdy nd n (j + 1) = (rdy nd n j && (decide (rd nd.near j = n) || decide (rd nd.near j ∈ nd.heard))) := by
  unfold rdy
  generalize (nd.bg && !decide (n ∈ nd.told)) = P
  rw [Bool.and_assoc]
  congr 1
  rw [Bool.eq_iff_iff]
  simp only [decide_eq_true_eq, Bool.and_eq_true, Bool.or_eq_true]
  constructor
  · intro h
    exact ⟨fun i hi => h i (by omega), h j (by omega)⟩
  · rintro ⟨h1, h2⟩ i hi
    rcases Nat.lt_or_ge i j with h | h
    · exact h1 i h
    · obtain rfl : i = j := by omega
      exact h2
theorem rdy_all {nd : Nd} (hF : Fine nd) {n : Int} (hn : n ∈ nd.near) : rdy nd n nd.near.length = tellP nd n := by
  unfold rdy tellP
  rw [Bool.and_assoc]
  congr 2
  rw [Bool.eq_iff_iff, ready_iff hF.nn hF.hn hF.hs hn, decide_eq_true_iff]
  constructor
  · intro h x hx hne
    obtain ⟨i, hi, rfl⟩ := List.mem_iff_getElem.1 hx
    have := h i hi
    rw [rd_get _ _ hi] at this
    exact this.resolve_left hne
  · intro h i hi
    rw [rd_get _ _ hi]
    by_cases e : nd.near[i] = n
    · exact .inl e
    · exact .inr (h _ (List.getElem_mem hi) e)
set_option maxRecDepth 100000 in
set_option maxHeartbeats 4000000 in
theorem refTell_calls (w : World) (nd : Nd) (hF : Fine nd) (A B C : Option Addr) (a b c : Nat) (h1 : (Kd.int .i64).C w A nd.near.length nd.near) (h2 : (Kd.int .i64).C w B nd.heard.length nd.heard) (h3 : (Kd.int .i64).C w C nd.told.length nd.told) :
    Calls Tryd.prog 22 #[.agg #[.slice A nd.near.length a, .slice B nd.heard.length b, .slice C nd.told.length c, .bool nd.bg]] w fun e w' => ∃ A1 k1 A2 k2, e = .returned (.tuple #[.agg #[.slice A nd.near.length a, .slice B nd.heard.length b, .slice A1 (nd.told ++ tells nd.near nd.heard nd.told nd.bg).length k1, .bool nd.bg], .slice A2 (tells nd.near nd.heard nd.told nd.bg).length k2]) ∧
      (Kd.int .i64).R 3 w' w.heap.size (fun _ => True) (.slice A1 (nd.told ++ tells nd.near nd.heard nd.told nd.bg).length k1) (nd.told ++ tells nd.near nd.heard nd.told nd.bg) ∧ (Kd.int .i64).R 3 w' w.heap.size (fun _ => True) (.slice A2 (tells nd.near nd.heard nd.told nd.bg).length k2) (tells nd.near nd.heard nd.told nd.bg) ∧ Below w.heap.size w w' := by
  have n8 : (nd.near.length : Int) ≤ 8 := by have := hF.near8; omega
  have HF := Lib.hid hF
  have H1 := Aside0.mk h1
  have H2 := Aside0.mk h2
  have H3 := Aside0.mk h3
  clear hF h1 h2 h3
  suffices hall : ∀ bb, bb = nd.bg → Calls Tryd.prog 22 #[.agg #[.slice A nd.near.length a, .slice B nd.heard.length b, .slice C nd.told.length c, .bool bb]] w fun e w' => ∃ A1 k1 A2 k2, e = .returned (.tuple #[.agg #[.slice A nd.near.length a, .slice B nd.heard.length b, .slice A1 (nd.told ++ tells nd.near nd.heard nd.told nd.bg).length k1, .bool nd.bg], .slice A2 (tells nd.near nd.heard nd.told nd.bg).length k2]) ∧
      (Kd.int .i64).R 3 w' w.heap.size (fun _ => True) (.slice A1 (nd.told ++ tells nd.near nd.heard nd.told nd.bg).length k1) (nd.told ++ tells nd.near nd.heard nd.told nd.bg) ∧ (Kd.int .i64).R 3 w' w.heap.size (fun _ => True) (.slice A2 (tells nd.near nd.heard nd.told nd.bg).length k2) (tells nd.near nd.heard nd.told nd.bg) ∧ Below w.heap.size w w' from hall _ rfl
  intro bb hbb
  have HBB := Lib.hid hbb
  clear hbb
  go_enter Tryd.func22, Tryd.ntmps22
  go_wp2
  obtain ⟨X, hX⟩ : ∃ X : World, X = (w.alloc (.cells #[.slice A nd.near.length a, .slice B nd.heard.length b, .slice C nd.told.length c, .bool bb] 31)).alloc (.cells #[.slice none 0 0, .slice none 0 0, .slice none 0 0, .bool false] 31) := ⟨_, rfl⟩
  rw [← hX]
  have hXs : X.heap.size = w.heap.size + 2 := by rw [hX]; simp
  have hXB : Below w.heap.size w X := by rw [hX]; exact below_alloc (below_alloc (Below.refl _ _) _) _
  have x0 : X.heap[w.heap.size]? = some (.cells #[.slice A nd.near.length a, .slice B nd.heard.length b, .slice C nd.told.length c, .bool bb] 31) := by rw [hX, heap_alloc_old _ _ _ (by simp only [alloc_size]; omega)]; exact heap_alloc_here _ _ _ rfl
  have x1 : X.heap[w.heap.size + 1]? = some (.cells #[.slice none 0 0, .slice none 0 0, .slice none 0 0, .bool false] 31) := by rw [hX]; exact heap_alloc_here _ _ _ (by simp only [alloc_size])
  have HXS := Lib.hid hXs
  have HXB := Aside0.mk hXB
  have X0 := Aside0.mk x0
  have X1 := Aside0.mk x1
  clear hX hXs hXB x0 x1
  go_loopw [4, 14] (fun v4 v14 wr => ∃ k : Nat, k ≤ nd.near.length ∧ v14 = .int .i64 k ∧ Aside0 ((Kd.int .i64).R 3 wr X.heap.size (fun _ => True) v4 (out nd k)) ∧ Aside0 (Below X.heap.size X wr)) (fun _ v _ => nd.near.length - (intOf v).toNat)
  case atStart => exact ⟨0, Nat.zero_le _, rfl, ⟨Kd.R_nil _ _ _ _ _⟩, ⟨Below.refl _ _⟩⟩
  case round =>
    obtain ⟨k, hk, rfl, HR, HB⟩ := hrel
    have q0 := (HB.out.block _ (by have := HXS.out; omega)).trans X0.out
    obtain ⟨⟨c0, c1, c2, c3⟩, _⟩ := M_cells q0
    have HW := Aside0.mk (below_weaken HXB.out (by have := HXS.out; omega) HB.out)
    clear q0
    by_cases hlt : k < nd.near.length
    · obtain ⟨n, hn⟩ : ∃ n, n = rd nd.near k := ⟨_, rfl⟩
      obtain ⟨ad, rfl, hcell⟩ := C_cell (Kd.C_below H1.out HW.out) hlt
      rw [← hn] at hcell
      have hnm : n ∈ nd.near := by rw [hn]; exact rd_mem _ _ hlt
      have HNM := Lib.hid hnm
      have HN := Lib.hid hn
      have HLT := Lib.hid hlt
      have k0 : (0 : Int) ≤ k := by omega
      have k1 : (k : Int) < nd.near.length := by omega
      clear hn hnm hlt
      go_upto_region 5 with (fail)
      go_cut [7] (fun s7 wx => s7 = .bool (rdy nd n 0) ∧ wx = wr)
      case first =>
        cases bb with
        | true =>
          have HV := Lib.hid (show rdy nd n 0 = !decide (n ∈ nd.told) by have hbg := HBB.out; simp [rdy, ← hbg])
          go_wp2_with (go_at_call 24; refine (has_calls _ _ _ nd.told n (Kd.C_below H3.out HW.out)).mono ?_; rintro e w4 ⟨rfl, rfl⟩)
          go_meet
          case rel =>
            rw [HV.out]
            first
              | exact ⟨rfl, rfl⟩
              | exact ⟨by simp, rfl⟩
        | false =>
          have HV := Lib.hid (show rdy nd n 0 = false by have hbg := HBB.out; simp [rdy, ← hbg])
          go_wp2
          go_meet
          case rel => rw [HV.out]; exact ⟨rfl, rfl⟩
      case rest =>
        obtain ⟨rfl, hwc⟩ := hcut
        subst hwc
        go_wp2
        go_loop [7, 30] (fun v7 v30 => ∃ (j : Nat) (r : Bool), v30 = .int .i64 j ∧ j ≤ nd.near.length ∧ v7 = .bool r ∧ Hid (r = rdy nd n j)) (fun _ v => nd.near.length - (intOf v).toNat)
        case atStart => exact ⟨0, _, rfl, Nat.zero_le _, rfl, rfl⟩
        case round =>
          obtain ⟨j, r, rfl, hj, rfl, hr⟩ := hrel
          by_cases hlt : j < nd.near.length
          · obtain ⟨m, hm⟩ : ∃ m, m = rd nd.near j := ⟨_, rfl⟩
            obtain ⟨_, e, hcell2⟩ := C_cell (Kd.C_below H1.out HW.out) hlt
            cases e
            rw [← hm] at hcell2
            have j0 : (0 : Int) ≤ j := by omega
            have j1 : (j : Int) < nd.near.length := by omega
            have HJ := Lib.hid hlt
            have hst := rdy_step nd n j
            rw [← hr.out, ← hm] at hst
            cases r with
            | false =>
              have HST := Lib.hid (show rdy nd n (j + 1) = false by rw [hst]; rfl)
              clear hlt hm hst
              go_wp2
              go_round
              case rel => exact ⟨j + 1, false, by go_num, by have := HJ.out; omega, rfl, HST.out.symm⟩
              case measure => have := HJ.out; simp [intOf]; omega
            | true =>
              by_cases he : m = n
              · have e1 : (m == n) = true := beq_iff_eq.2 he
                have HST := Lib.hid (show rdy nd n (j + 1) = true by rw [hst, decide_eq_true he]; rfl)
                clear hlt hm hst he
                go_wp2
                go_round
                case rel => exact ⟨j + 1, true, by go_num, by have := HJ.out; omega, rfl, HST.out.symm⟩
                case measure => have := HJ.out; simp [intOf]; omega
              · have e1 : (m == n) = false := beq_eq_false_iff_ne.2 he
                have HST := Lib.hid (show rdy nd n (j + 1) = decide (m ∈ nd.heard) by rw [hst, decide_eq_false he]; simp)
                clear hlt hm hst he
                go_wp2_with (go_at_call 24; refine (has_calls _ _ _ nd.heard m (Kd.C_below H2.out HW.out)).mono ?_; rintro e w4 ⟨rfl, rfl⟩)
                go_round
                case rel => exact ⟨j + 1, decide (m ∈ nd.heard), by go_num, by have := HJ.out; omega, rfl, HST.out.symm⟩
                case measure => have := HJ.out; simp [intOf]; omega
          · have j1 : ¬ (j : Int) < nd.near.length := by omega
            have hfin : r = tellP nd n := by
              rw [hr.out, show j = nd.near.length by omega]
              exact rdy_all HF.out HNM.out
            clear hlt
            cases r with
            | false =>
              have HO := Lib.hid (show out nd (k + 1) = out nd k from out_no HLT.out (by rw [← HN.out]; exact hfin.symm))
              clear hfin
              go_wp2
              go_roundw
              case rel => exact ⟨k + 1, by have := HLT.out; omega, by go_num, ⟨by rw [HO.out]; exact HR.out⟩, HB⟩
              case measure => have := HLT.out; simp [intOf]; omega
            | true =>
              have HO := Lib.hid (show out nd (k + 1) = out nd k ++ [n] from by rw [HN.out]; exact out_yes HLT.out (by rw [← HN.out]; exact hfin.symm))
              have HL2 := Lib.hid (show (out nd k).length ≤ 8 by have := HF.out.near8; have := out_len nd k; omega)
              clear hfin
              go_wp2_with (at_builtin; refine Kd.R_append (Kd.int .i64) (w0 := X) X.heap.size rfl _ _ _ 3 (.int .i64 0) 8 rfl Tryd.underlying22 info3 rfl (by decide) (by omega) u4 (out nd k) n [.int .i64 n] (fun _ => True) (fun _ => False) rfl rfl rfl (fun _ hk => hk.elim) (fun _ _ => trivial) HR.out HB.out HB.out.size (by have := HL2.out; omega) ?_; intro v3 w3 ho hb hg hat; have HO3 := Aside0.mk ho; have HB3 := Aside0.mk hb; clear ho hb hg hat)
              go_roundw
              case rel => exact ⟨k + 1, by have := HLT.out; omega, by go_num, ⟨by rw [HO.out]; exact HO3.out⟩, HB3⟩
              case measure => have := HLT.out; simp [intOf]; omega
    · have k1 : ¬ (k : Int) < nd.near.length := by omega
      have HK := Lib.hid (show out nd k = tells nd.near nd.heard nd.told nd.bg by rw [show k = nd.near.length by omega, out_all])
      clear hlt
      have HR0 := HR.out
      rw [HK.out] at HR0
      have ht8 := HF.out.tell.told8
      have ho8 := HF.out.told8
      obtain ⟨T, hT⟩ : ∃ T, T = tells nd.near nd.heard nd.told nd.bg := ⟨_, rfl⟩
      have HTT := Lib.hid (show nd.told.length + T.length ≤ 8 by rw [hT]; simpa using ht8)
      rw [← hT] at HR0
      have HT := Lib.hid hT
      obtain ⟨A4, c4, hu4, _, hC4⟩ := Kd.R_reads HR0
      subst hu4
      have HR4 := Aside0.mk HR0
      have HC4 := Aside0.mk hC4
      have HXW := Aside0.mk HB.out.size
      have HQ1 := Aside0.mk ((HB.out.block _ (by have := HXS.out; omega)).trans X1.out)
      have HQ0 := Aside0.mk ((HB.out.block _ (by have := HXS.out; omega)).trans X0.out)
      have c2a : ∀ o, (wr.alloc o).cell? ⟨w.heap.size, 2, none⟩ = some (.slice C nd.told.length c) := fun o => by rw [World.cell?_alloc_lt _ _ ⟨w.heap.size, 2, none⟩ (by exact blk_lt HQ0.out)]; exact c2
      clear HK HR HR0 hC4 hT ht8 ho8
      go_wp2_with (at_builtin; refine app_rows wr.heap.size rfl _ _ rfl (.slice (some ⟨wr.heap.size, 0, none⟩) 0 0) [] nd.told C nd.told.length c rfl rfl (empty_row wr _ _ (Nat.le_refl _) trivial _) (Kd.C_alloc (Kd.C_below H3.out HW.out) _) (by simp) (by have := HTT.out; simp; omega) ?_; intro v2 w2 hr2 hb2; have hbw := (below_alloc (Below.refl _ wr) (.cells #[] 3)).trans hb2; have HB2 := Aside0.mk hbw; obtain ⟨A2, k2, hv2, _, _⟩ := Kd.R_reads hr2; rw [List.nil_append] at hr2 hv2; subst hv2; have HR2 := Aside0.mk hr2; clear c0 c1 c2 c3; have d0 := (hbw.block _ (blk_lt HQ0.out)).trans HQ0.out; obtain ⟨⟨c0, c1, c2, c3⟩, _⟩ := M_cells d0; have HD0 := Aside0.mk d0; clear hr2 hb2 hbw d0)
      clear c2a c0 c1 c2 c3
      refine wp_region_noPanic ?_
      refine wp_region_held_drew (S := fun W => W.heap[w.heap.size]? = some (.cells #[.slice A nd.near.length a, .slice B nd.heard.length b, .slice C nd.told.length c, .bool bb] 31)) (by kernel_rfl) HD0.out (fun hHeld => ?_)
      refine wpAnyH_take (i := 0) (v := ?_) rfl (by kernel_rfl) (by kernel_rfl) (by kernel_rfl) (fun _ _ _ h => h) (Or.inl ⟨by rfl, ?_⟩) (by assumption) ?_
      rotate_left 1
      · first | (intro w hSw; go_simp; done) | (intro w hSw; go_simp; with_reducible rfl)
      try simp only [Act.put, List.getElem_toArray, List.getElem_cons_zero, List.getElem_cons_succ, List.setIfInBounds_toArray, List.set_cons_zero, List.set_cons_succ]
      refine wpAnyH_take (i := 1) (v := ?_) rfl (by kernel_rfl) (by kernel_rfl) (by kernel_rfl) (fun _ _ _ h => h) (Or.inl ⟨by rfl, ?_⟩) (by assumption) ?_
      rotate_left 1
      · first | (intro w hSw; obtain ⟨⟨c0, c1, c2, c3⟩, _⟩ := M_cells hSw; go_simp; done) | (intro w hSw; obtain ⟨⟨c0, c1, c2, c3⟩, _⟩ := M_cells hSw; go_simp; with_reducible rfl)
      try simp only [Act.put, List.getElem_toArray, List.getElem_cons_zero, List.getElem_cons_succ, List.setIfInBounds_toArray, List.set_cons_zero, List.set_cons_succ]
      refine wpAnyH_take (i := 2) (v := ?_) rfl (by kernel_rfl) (by kernel_rfl) (by kernel_rfl) (fun _ _ _ h => h) (Or.inl ⟨by rfl, ?_⟩) (by assumption) ?_
      rotate_left 1
      · first | (intro w hSw; go_simp; done) | (intro w hSw; go_simp; with_reducible rfl)
      try simp only [Act.put, List.getElem_toArray, List.getElem_cons_zero, List.getElem_cons_succ, List.setIfInBounds_toArray, List.set_cons_zero, List.set_cons_succ]
      refine wpAnyH_take (i := 3) (v := ?_) rfl (by kernel_rfl) (by kernel_rfl) (by kernel_rfl) (fun _ _ _ h => h) (Or.inl ⟨by rfl, ?_⟩) (by assumption) ?_
      rotate_left 1
      · first | (intro w hSw; obtain ⟨⟨c0, c1, c2, c3⟩, _⟩ := M_cells hSw; go_simp; done) | (intro w hSw; obtain ⟨⟨c0, c1, c2, c3⟩, _⟩ := M_cells hSw; go_simp; with_reducible rfl)
      try simp only [Act.put, List.getElem_toArray, List.getElem_cons_zero, List.getElem_cons_succ, List.setIfInBounds_toArray, List.set_cons_zero, List.set_cons_succ]
      refine wpAnyH_take (i := 4) (v := ?_) rfl (by kernel_rfl) (by kernel_rfl) (by kernel_rfl) (fun _ _ _ h => h) (Or.inl ⟨by rfl, ?_⟩) (by assumption) ?_
      rotate_left 1
      · first | (intro w hSw; go_simp; done) | (intro w hSw; go_simp; with_reducible rfl)
      try simp only [Act.put, List.getElem_toArray, List.getElem_cons_zero, List.getElem_cons_succ, List.setIfInBounds_toArray, List.set_cons_zero, List.set_cons_succ]
      refine wpAnyH_take (i := 5) (v := ?_) rfl (by kernel_rfl) (by kernel_rfl) (by kernel_rfl) (fun _ _ _ h => h) (Or.inl ⟨by rfl, ?_⟩) (by assumption) ?_
      rotate_left 1
      · first | (intro w hSw; go_simp; done) | (intro w hSw; go_simp; with_reducible rfl)
      try simp only [Act.put, List.getElem_toArray, List.getElem_cons_zero, List.getElem_cons_succ, List.setIfInBounds_toArray, List.set_cons_zero, List.set_cons_succ]
      refine wpAnyH_take (i := 7) (v := ?_) rfl (by kernel_rfl) (by kernel_rfl) (by kernel_rfl) (fun _ _ _ h => h) (Or.inl ⟨by rfl, ?_⟩) (by assumption) ?_
      rotate_left 1
      · first | (intro w hSw; go_simp; done) | (intro w hSw; go_simp; with_reducible rfl)
      try simp only [Act.put, List.getElem_toArray, List.getElem_cons_zero, List.getElem_cons_succ, List.setIfInBounds_toArray, List.set_cons_zero, List.set_cons_succ]
      refine wpAnyH_take (i := 8) (v := ?_) rfl (by kernel_rfl) (by kernel_rfl) (by kernel_rfl) (fun _ _ _ h => h) (Or.inl ⟨by rfl, ?_⟩) (by assumption) ?_
      rotate_left 1
      · first | (intro w hSw; obtain ⟨⟨c0, c1, c2, c3⟩, _⟩ := M_cells hSw; go_simp; done) | (intro w hSw; obtain ⟨⟨c0, c1, c2, c3⟩, _⟩ := M_cells hSw; go_simp; with_reducible rfl)
      try simp only [Act.put, List.getElem_toArray, List.getElem_cons_zero, List.getElem_cons_succ, List.setIfInBounds_toArray, List.set_cons_zero, List.set_cons_succ]
      refine wpAnyH_take (i := 10) (v := ?_) rfl (by kernel_rfl) (by kernel_rfl) (by kernel_rfl) (fun _ _ _ h => h) (Or.inl ⟨by rfl, ?_⟩) (by assumption) ?_
      rotate_left 1
      · first | (intro w hSw; go_simp; done) | (intro w hSw; go_simp; with_reducible rfl)
      try simp only [Act.put, List.getElem_toArray, List.getElem_cons_zero, List.getElem_cons_succ, List.setIfInBounds_toArray, List.set_cons_zero, List.set_cons_succ]
      refine wpAnyH_ready (rs := [6]) (by kernel_rfl) (by simp) ?_
      refine AllReadyH.cons rfl (fun K hK => ?_) AllReadyH.nil
      refine Kd.R_append_rows_step (W := w2.drew) (w0 := w2.drew) (Kd.int .i64) wr.heap.size rfl _ _ 22 3 (.int .i64 0) 8 rfl Tryd.underlying22 info3 rfl (by decide) (by omega) (.slice A2 nd.told.length k2) nd.told T A4 T.length c4 (fun _ => True) (fun _ => False) rfl rfl (Kd.R_below HR2.out (Below.refl _ _).drew) (Kd.C_below (Kd.C_below HC4.out HB2.out) (Below.refl _ _).drew) (fun _ _ h => h) (fun _ hk => hk.elim) (fun _ _ => trivial) (Below.refl _ _) HB2.out.size (by have := HTT.out; omega) ?_; intro v3 w3 hr3 hb3 _ _; obtain ⟨A3, k3, hv3, _, _⟩ := Kd.R_reads hr3; subst hv3; have HR3 := Aside0.mk hr3; have hbw := (HB2.out.trans (show Below wr.heap.size w2 w3 from ⟨hb3.os, hb3.tape, hb3.output, hb3.size, hb3.block⟩)); have HB3 := Aside0.mk hbw; have e0 := (hbw.block _ (blk_lt HQ0.out)).trans HQ0.out; have e1 := (hbw.block _ (blk_lt HQ1.out)).trans HQ1.out; obtain ⟨⟨g0, g1, g2, g3⟩, g4, g5, g6, g7⟩ := M_cells e1; have HE1 := Aside0.mk e1; clear hr3 hb3 hbw e1
      refine hK.out _ _ e0 (fun hHeld => ?_)
      clear hK K
      try simp only [Act.put, List.getElem_toArray, List.getElem_cons_zero, List.getElem_cons_succ, List.setIfInBounds_toArray, List.set_cons_zero, List.set_cons_succ]
      refine wpAnyH_take (i := 9) (v := ?_) rfl (by kernel_rfl) (by kernel_rfl) (by kernel_rfl) (fun _ _ _ h => h) (Or.inl ⟨by rfl, ?_⟩) (by assumption) ?_
      rotate_left 1
      · first | (intro w hSw; go_simp; done) | (intro w hSw; go_simp; with_reducible rfl)
      try simp only [Act.put, List.getElem_toArray, List.getElem_cons_zero, List.getElem_cons_succ, List.setIfInBounds_toArray, List.set_cons_zero, List.set_cons_succ]
      refine wpAnyH_ready (rs := [11]) (by kernel_rfl) (by simp) ?_
      refine AllReadyH.cons rfl (fun K hK => ?_) AllReadyH.nil
      go_simp
      skip
      go_simp
      refine hK.out _ _ ((Below.heap_setCell _ _ _ _ (Nat.ne_of_lt (Nat.lt_succ_self _))).trans ((Below.heap_setCell _ _ _ _ (Nat.ne_of_lt (Nat.lt_succ_self _))).trans ((Below.heap_setCell _ _ _ _ (Nat.ne_of_lt (Nat.lt_succ_self _))).trans ((Below.heap_setCell _ _ _ _ (Nat.ne_of_lt (Nat.lt_succ_self _))).trans hHeld)))) (fun hHeld => ?_)
      clear hK K
      try simp only [Act.put, List.getElem_toArray, List.getElem_cons_zero, List.getElem_cons_succ, List.setIfInBounds_toArray, List.set_cons_zero, List.set_cons_succ]
      refine wpAnyH_take (i := 12) (v := ?_) rfl (by kernel_rfl) (by kernel_rfl) (by kernel_rfl) (fun _ _ _ h => h) (Or.inl ⟨by rfl, ?_⟩) (by assumption) ?_
      rotate_left 1
      · first | (intro w hSw; go_simp; done) | (intro w hSw; go_simp; with_reducible rfl)
      try simp only [Act.put, List.getElem_toArray, List.getElem_cons_zero, List.getElem_cons_succ, List.setIfInBounds_toArray, List.set_cons_zero, List.set_cons_succ]
      refine wpAnyH_done (by kernel_rfl) ?_ _
      refine NoPanic.normal ?_
      go_wp2
      (try simp only [Exit.inBlock, Exit.then])
      obtain ⟨⟨y0, y1, y2, y3⟩, _⟩ := M_cells (M_put HE1.out (.slice A nd.near.length a) (.slice B nd.heard.length b) (.slice A3 (nd.told.length + T.length) k3) (.bool bb))
      refine bodyPost_ret (v := .tuple #[.agg #[.slice A nd.near.length a, .slice B nd.heard.length b, .slice A3 (nd.told.length + T.length) k3, .bool bb], .slice A4 T.length c4]) (by simp [results, Tryd.results22, go_sem, y0, y1, y2, y3]) rfl ?_
      have hF := below_put4 (g := w.heap.size + 1) (HW.out.trans (HB3.out.mono HW.out.size)) (Nat.le_succ _) (.slice A nd.near.length a) (.slice B nd.heard.length b) (.slice A3 (nd.told.length + T.length) k3) (.bool bb)
      have hxs := HXS.out
      have hxw := HXW.out
      have far1 : ∀ q, wr.heap.size ≤ q → q ≠ w.heap.size + 1 := fun q hq => by omega
      have far2 : ∀ q, X.heap.size ≤ q → q ≠ w.heap.size + 1 := fun q hq => by omega
      have r3 := Kd.R_mono (Kd.R_bound HR3.out) (ok' := fun q => wr.heap.size ≤ q) (fun q hq => hq.2.1)
      have r4 := Kd.R_mono (Kd.R_bound (Kd.R_below HR4.out HB3.out)) (ok' := fun q => X.heap.size ≤ q) (fun q hq => hq.2.1)
      have q3 := Kd.R_mono (Kd.R_lower (R_far4 r3 far1 (.slice A nd.near.length a) (.slice B nd.heard.length b) (.slice A3 (nd.told.length + T.length) k3) (.bool bb)) (show w.heap.size ≤ wr.heap.size by omega)) (ok' := fun _ => True) (fun _ _ => trivial)
      have q4 := Kd.R_mono (Kd.R_lower (R_far4 r4 far2 (.slice A nd.near.length a) (.slice B nd.heard.length b) (.slice A3 (nd.told.length + T.length) k3) (.bool bb)) (show w.heap.size ≤ X.heap.size by omega)) (ok' := fun _ => True) (fun _ _ => trivial)
      rw [← HT.out]
      refine ⟨A3, k3, A4, c4, ?_, q3, q4, hF⟩
      rw [HBB.out, List.length_append]
end Go.Proofs.YtpnokpoikhpiiaaDoor
