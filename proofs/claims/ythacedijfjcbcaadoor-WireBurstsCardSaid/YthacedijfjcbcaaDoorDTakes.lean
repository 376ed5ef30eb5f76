/- WireTakes. -/
import Derived.Test.YthacedijfjcbcaaDoorR4Bytes
import Derived.Test.YthacedijfjcbcaaDoorWAwakeD
namespace Go.Proofs.YthacedijfjcbcaaDoor
open Go.RowKit Go.Proofs.YthacedijfjcbcaaDoorW.PrintWords Go.Proofs.YthacedijfjcbcaaDoorW.PrintLast Go.Proofs.YthacedijfjcbcaaDoorW.PrintMore
set_option linter.unusedVariables false
set_option linter.unusedSimpArgs false
theorem IsEr.put {W : World} {base : Nat} {er : Er} {v : Value} (h : IsEr W base er v) {g : Nat} (hg : g < base) (a b c : Value) : IsEr (((W.setCell ⟨g, 0, none⟩ a).setCell ⟨g, 1, none⟩ b).setCell ⟨g, 2, none⟩ c) base er v := by
  cases er with
  | ok => exact h
  | num n => exact h
  | at_ kind k n =>
    obtain ⟨g1, rfl, h1, h2⟩ := h
    have hne : g1 ≠ g := by omega
    exact ⟨g1, rfl, h1, (Below.heap_setCell _ _ _ _ hne).trans ((Below.heap_setCell _ _ _ _ hne).trans ((Below.heap_setCell _ _ _ _ hne).trans h2))⟩
theorem E_notByte {W : World} {g : Nat} {x : Bool} {S : Option Addr} {l c : Nat} {i : Int} {t : Nat} (hz : W.heap[g]? = some (.cells #[.bool x, .slice S l c, .int .i64 i] t)) (p : Addr) (hp : p.block = g) (k : Int) : W.cell? p ≠ some (.int .u8 k) := by
  intro h
  unfold World.cell? at h
  rw [hp, hz] at h
  have h' : (if p.spot.isSome = true then none else (#[Value.bool x, .slice S l c, .int .i64 i] : Array Value)[p.off]?) = some (Value.int .u8 k) := h
  by_cases hs : p.spot.isSome = true
  · rw [if_pos hs] at h'; cases h'
  · rw [if_neg hs] at h'
    rcases hq : p.off with _ | _ | _ | q
    · rw [hq] at h'; cases h'
    · rw [hq] at h'; cases h'
    · rw [hq] at h'; cases h'
    · rw [hq] at h'; simp at h'
/-- A row of bytes stands behind a store into a block that holds no byte. -/
theorem C_farset {W : World} {A : Option Addr} {n : Nat} {xs : List UInt8} (h : kB.C W A n xs) {g j : Nat} (hg : ∀ p : Addr, p.block = g → ∀ k, W.cell? p ≠ some (.int .u8 k)) (u : Value) : kB.C (W.setCell ⟨g, j, none⟩ u) A n xs := by
  have h1 := Kd.reads_of_C (enc := encB) (d := 0) h
  refine Kd.C_of_reads (enc := encB) (d := 0) ⟨h1.1, h1.2.1, fun hn => ?_⟩
  obtain ⟨ad, e, hc⟩ := h1.2.2 hn
  refine ⟨ad, e, fun k hk => ?_⟩
  rw [← hc k hk]
  have hne : (ad.add k).block ≠ g := fun e => hg _ e _ (hc k hk)
  unfold World.cell?
  rw [Below.heap_setCell _ _ _ _ (by exact hne)]
theorem C_farput {W : World} {A : Option Addr} {n : Nat} {xs : List UInt8} (h : kB.C W A n xs) {g : Nat} {x : Bool} {S : Option Addr} {l c : Nat} {i : Int} {t : Nat} (hz : W.heap[g]? = some (.cells #[.bool x, .slice S l c, .int .i64 i] t)) (a' : Bool) (S' : Option Addr) (l' m' : Nat) (c' : Value) :
    kB.C (((W.setCell ⟨g, 0, none⟩ (.bool a')).setCell ⟨g, 1, none⟩ (.slice S' l' m')).setCell ⟨g, 2, none⟩ c') A n xs := by
  have h1 := blk_set hz 0 (.bool a')
  have h2 := blk_set h1 1 (.slice S' l' m')
  exact C_farset (C_farset (C_farset h (E_notByte hz) _) (E_notByte h1) _) (E_notByte h2) _
set_option maxRecDepth 100000 in
set_option maxHeartbeats 2000000 in
theorem wireTakes_calls (w : World) (hg : Laid w) (A : Option Addr) (c : Nat) (b : List UInt8) (p : Int) (hx : kB.C w A b.length b) (hc : b.length ≤ c) (hl : b.length ≤ 9223372036854775807) :
    Calls Tryd.prog 6 #[.slice A b.length c, .int .i64 p] w fun e w' => e = .returned (.bool true) ∧ Below w.heap.size w w' := by
  have HX := Lib.hid hx
  have HC := Lib.hid hc
  have HG := Lib.hid hg
  have hl1 : (b.length : Int) ≤ 9223372036854775807 := by omega
  obtain ⟨t, ht⟩ : ∃ t, t = takeU b p := ⟨_, rfl⟩
  obtain ⟨x, n, er⟩ := t
  obtain ⟨z, hz⟩ : ∃ z, z = zag x := ⟨_, rfl⟩
  obtain ⟨t2, ht2⟩ : ∃ t2, t2 = takeB b p := ⟨_, rfl⟩
  obtain ⟨ys, m, er2⟩ := t2
  have HT := Lib.hid ht
  have HZ := Lib.hid hz
  have HT2 := Lib.hid ht2
  clear hx hc hl hg ht hz ht2
  by_cases h3 : 3000 < b.length
  · have h3' : (3000 : Int) < b.length := by omega
    clear h3
    go_enter Tryd.func6, Tryd.ntmps6
    go_wp2_with (go_at_call 7; refine (awake_calls _).mono ?_; rintro e w0 ⟨rfl, hb⟩; have H0 := Aside0.mk hb; clear hb)
    go_ret
    exact ⟨rfl, H0.out⟩
  · have h3' : ¬ (3000 : Int) < b.length := by omega
    have HL := Lib.hid (show b.length ≤ 1099511627776 by omega)
    clear h3
    go_enter Tryd.func6, Tryd.ntmps6
    go_upto_region 6 with (first
      | (go_at_call 10; refine (takeUint_calls _ _ _ b p HC1.out HL1.out HL.out).mono ?_; intro e w2 h; unfold TakeUPost at h; rw [← HT.out] at h; obtain ⟨v, rfl, hv, hb⟩ := h; have HV := Aside0.mk hv; have H2 := Aside0.mk (below_step H1.out hb); clear hv hb)
      | (go_at_call 16; refine (twin_calls _ _ _ b (Kd.C_below HX.out H0.out) HL.out).mono ?_; intro e w1 h; obtain ⟨A1, c1, rfl, hl1, _, hC, hb⟩ := h.open_; have HC1 := Aside0.mk hC; have HL1 := Lib.hid hl1; have H1 := Aside0.mk (below_step H0.out hb); clear h hC hb hl1)
      | (go_at_call 7; refine (awake_calls _).mono ?_; rintro e w0 ⟨rfl, hb⟩; have H0 := Aside0.mk hb; clear hb))
    go_cut [8, 9, 10] (fun s8 s9 s10 wx => s8 = .int .u64 x ∧ s9 = .int .i64 n ∧ ∃ g A0 n0 c0 cd0, s10 = .pointer (some ⟨g, 0, none⟩) ∧ Aside0 (Below w.heap.size w wx ∧ w.heap.size ≤ g ∧ IsEr wx w1.heap.size er v ∧ IsE wx er (.agg #[.bool er.bad, .slice A0 n0 c0, .int .i64 cd0]) ∧ wx.heap[g]? = some (.cells #[.bool er.bad, .slice A0 n0 c0, .int .i64 cd0] 35)))
    case first =>
      go_wp2_with (go_at_call 26; refine (refTakeUint_calls _ _ _ b p (Kd.C_below HX.out H2.out) HL.out).mono ?_; intro e w3 h; unfold RTakeUPost at h; rw [← HT.out] at h; obtain ⟨v3, rfl, hv, hb⟩ := h; obtain ⟨A0, n0, c0, cd0, rfl⟩ := hv.open_; have HV3 := Aside0.mk hv; have HB3 := Aside0.mk hb; have H3 := Aside0.mk (below_step H2.out hb); clear hv hb)
      go_meet
      exact ⟨rfl, rfl, _, A0, n0, c0, cd0, rfl, ⟨below_alloc H3.out _, H3.out.size, (HV.out.below HB3.out).below (below_alloc (Below.refl _ _) _), HV3.out.below (below_alloc (Below.refl _ _) _), heap_alloc_new _ _⟩⟩
    case rest =>
      obtain ⟨rfl, rfl, g, A0, n0, c0, cd0, rfl, hh⟩ := hcut
      obtain ⟨hb, hgw, hv, he, hz⟩ := hh.out
      obtain ⟨⟨q0, q1, q2⟩, _, _, _⟩ := E_cells (x := (0, 0)) hz
      have H4 := Aside0.mk hb
      have HGW := Lib.hid hgw
      have HV4 := Aside0.mk hv
      have HE4 := Aside0.mk he
      have HQ4 := Aside0.mk hz
      clear hh hb hgw hv he hz
      go_upto_region 10 with (first
        | (go_at_call 27; refine (takeInt_calls _ _ _ b p HC6.out HL6.out HL.out).mono ?_; intro e w7 h; unfold TakeIPost at h; rw [← HT.out] at h; simp only [] at h; rw [← HZ.out] at h; obtain ⟨v7, rfl, hv, hb⟩ := h; have HV7 := Aside0.mk hv; have H7 := Aside0.mk (below_step H6.out hb); have HQ7 := Aside0.mk ((hb.block _ (blk_lt HQ6.out)).trans HQ6.out); have HS6 := Aside0.mk (blk_lt HQ6.out); clear hv hb)
        | (go_at_call 16; refine (twin_calls _ _ _ b (Kd.C_below HX.out H5.out) HL.out).mono ?_; intro e w6 h; obtain ⟨A6, c6, rfl, hl1, _, hC, hb⟩ := h.open_; have HC6 := Aside0.mk hC; have HL6 := Lib.hid hl1; have H6 := Aside0.mk (below_step H5.out hb); have HQ6 := Aside0.mk ((hb.block _ (blk_lt HQ5.out)).trans HQ5.out); clear h hC hb hl1)
        | (go_at_call 11; refine (fails_calls _ _ er _ _ (HG.out.below H4.out) HV4.out HE4.out).mono ?_; rintro e w5 ⟨rfl, hb⟩; have H5 := Aside0.mk (below_step H4.out hb); have HQ5 := Aside0.mk ((hb.block _ (blk_lt HQ4.out)).trans HQ4.out); clear hb))
      go_cut [12, 9] (fun s12 s9 wx => s12 = .int .i64 z ∧ s9 = .int .i64 n ∧ ∃ A0 n0 c0 cd0, Aside0 (Below w.heap.size w wx ∧ w.heap.size ≤ g ∧ IsEr wx w6.heap.size er v7 ∧ IsE wx er (.agg #[.bool er.bad, .slice A0 n0 c0, .int .i64 cd0]) ∧ wx.heap[g]? = some (.cells #[.bool er.bad, .slice A0 n0 c0, .int .i64 cd0] 35)))
      case first =>
        go_wp2_with (go_at_call 28; refine (refTakeInt_calls _ _ _ b p (Kd.C_below HX.out H7.out) HL.out).mono ?_; intro e w8 h; unfold RTakeIPost at h; rw [← HT.out] at h; simp only [] at h; rw [← HZ.out] at h; obtain ⟨v8, rfl, hv, hb⟩ := h; obtain ⟨A8, n8, c8, cd8, rfl⟩ := hv.open_; have HV8 := Aside0.mk hv; have HB8 := Aside0.mk hb; have H8 := Aside0.mk (below_step H7.out hb); have hz8 := (hb.block _ (blk_lt HQ7.out)).trans HQ7.out; obtain ⟨⟨z0, z1, z2⟩, z3, z4, z5⟩ := E_cells (x := (0, 0)) hz8; have HQ8 := Aside0.mk hz8; clear hv hb hz8)
        go_meet
        exact ⟨rfl, rfl, A8, n8, c8, cd8, ⟨below_put H8.out HGW.out _ _ _, HGW.out, (HV7.out.below HB8.out).put HS6.out _ _ _, HV8.out.put HQ8.out _ _ _, E_put HQ8.out _ _ _⟩⟩
      case rest =>
        obtain ⟨rfl, rfl, A8, n8, c8, cd8, hh⟩ := hcut
        obtain ⟨hb, hgw, hv, he, hz⟩ := hh.out
        obtain ⟨⟨q0, q1, q2⟩, _, _, _⟩ := E_cells (x := (0, 0)) hz
        have H9 := Aside0.mk hb
        have HV9 := Aside0.mk hv
        have HE9 := Aside0.mk he
        have HQ9 := Aside0.mk hz
        clear hh hb hgw hv he hz
        go_upto_region 14 with (first
          | (go_at_call 14; refine (takeBytes_calls _ _ _ b p HC11.out HL11.out HL.out).mono ?_; intro e w12 h; unfold TakeBPost at h; rw [← HT2.out] at h; obtain ⟨pv, v12, rfl, hp, hv, hb⟩ := h; obtain ⟨A12, c12, rfl, _, hC⟩ := Kd.R_reads hp; have HC12 := Aside0.mk hC; have HV12 := Aside0.mk hv; have H12 := Aside0.mk (below_step H11.out hb); have HQ12 := Aside0.mk ((hb.block _ (blk_lt HQ11.out)).trans HQ11.out); have HS11 := Aside0.mk (blk_lt HQ11.out); clear hv hb hp hC)
          | (go_at_call 16; refine (twin_calls _ _ _ b (Kd.C_below HX.out H10.out) HL.out).mono ?_; intro e w11 h; obtain ⟨A11, c11, rfl, hl1, _, hC, hb⟩ := h.open_; have HC11 := Aside0.mk hC; have HL11 := Lib.hid hl1; have H11 := Aside0.mk (below_step H10.out hb); have HQ11 := Aside0.mk ((hb.block _ (blk_lt HQ10.out)).trans HQ10.out); clear h hC hb hl1)
          | (go_at_call 11; refine (fails_calls _ _ er _ _ (HG.out.below H9.out) HV9.out HE9.out).mono ?_; rintro e w10 ⟨rfl, hb⟩; have H10 := Aside0.mk (below_step H9.out hb); have HQ10 := Aside0.mk ((hb.block _ (blk_lt HQ9.out)).trans HQ9.out); clear hb))
        go_wp2_with (first
          | (go_at_call 11; refine (fails_calls _ _ er2 _ _ (HG.out.below (below_put H13.out HGW.out _ _ _)) ((HV12.out.below HB13.out).put HS11.out _ _ _) (HV13.out.put HQ13.out _ _ _)).mono ?_; rintro e w14 ⟨rfl, hb⟩; have H14 := Aside0.mk (below_step (below_put H13.out HGW.out _ _ _) hb); clear hb)
          | (go_at_call 18; refine (bytes_same _ _ _ _ _ ys HCa.out HCb.out).mono ?_; rintro e w9 ⟨rfl, rfl⟩)
          | (go_at_call 29; refine (refTakeBytes_calls _ _ _ b p (Kd.C_below HX.out H12.out) HC.out HL.out).mono ?_; intro e w13 h; unfold RTakeBPost at h; rw [← HT2.out] at h; obtain ⟨pv, v13, rfl, hp, hv, hb⟩ := h; obtain ⟨A13, c13, rfl, _, hC⟩ := Kd.R_reads hp; obtain ⟨A8, n8, c8, cd8, rfl⟩ := hv.open_; have HV13 := Aside0.mk hv; have HB13 := Aside0.mk hb; have H13 := Aside0.mk (below_step H12.out hb); have hz8 := (hb.block _ (blk_lt HQ12.out)).trans HQ12.out; obtain ⟨⟨z0, z1, z2⟩, z3, z4, z5⟩ := E_cells (x := (0, 0)) hz8; obtain ⟨⟨y0, y1, y2⟩, _⟩ := E_cells (x := (0, 0)) (E_put hz8 (.bool er2.bad) (.slice A8 n8 c8) (.int .i64 cd8)); have HQ13 := Aside0.mk hz8; have HCa := Aside0.mk (C_farput (Kd.C_below HC12.out hb) hz8 er2.bad A8 n8 c8 (.int .i64 cd8)); have HCb := Aside0.mk (C_farput hC hz8 er2.bad A8 n8 c8 (.int .i64 cd8)); clear hv hb hz8 hp hC))
        go_ret
        exact ⟨rfl, H14.out⟩
end Go.Proofs.YthacedijfjcbcaaDoor
