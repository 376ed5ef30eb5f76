/- What a desk does: Begin. -/
import Derived.Test.YtmhfigkdeeldnaaDoorCmMove
namespace Go.Proofs.YtmhfigkdeeldnaaDoor
open Go.RowKit Go.Proofs.YtmhfigkdeeldnaaDoorW.PrintWords Go.Proofs.YtmhfigkdeeldnaaDoorW.PrintLast Go.Proofs.YtmhfigkdeeldnaaDoorW.PrintMore
set_option linter.unusedVariables false
set_option linter.unusedSimpArgs false

theorem infoS : (Tryd.prog.info? 47).map (fun i => (i.zero, i.size, i.bytes)) = some (some (.int .i64 0), 1, 8) := by kernel_rfl
def okB (xs : List Int) (j : Nat) : Prop := -1 ≤ rd xs j ∧ rd xs j < 8 ∧ (0 < j → rd xs (j - 1 : Nat) < rd xs j)
def Up (xs : List Int) : Prop := ∀ j, j < xs.length → okB xs j
theorem Up.lt {xs : List Int} (h : Up xs) : ∀ i j, i < j → j < xs.length → rd xs i < rd xs j := by
  intro i j hij
  induction j with
  | zero => omega
  | succ j ih =>
    intro hj
    have h1 := (h (j + 1) hj).2.2 (by omega)
    simp only [Nat.add_sub_cancel] at h1
    rcases Nat.lt_or_ge i j with hlt | hge
    · have := ih hlt (by omega); omega
    · have : i = j := by omega
      subst this; exact h1
theorem Up.low {xs : List Int} (h : Up xs) : ∀ j, j < xs.length → (j : Int) - 1 ≤ rd xs j := by
  intro j
  induction j with
  | zero => intro hj; have := (h 0 hj).1; omega
  | succ j ih =>
    intro hj
    have := ih (by omega)
    have := h.lt j (j + 1) (by omega) hj
    omega
theorem Up.nine {xs : List Int} (h : Up xs) : xs.length ≤ 9 := by
  rcases Nat.lt_or_ge 0 xs.length with h0 | h0
  · have := h.low (xs.length - 1) (by omega)
    have := (h (xs.length - 1) (by omega)).2.1
    omega
  · omega
theorem Up.nodup {xs : List Int} (h : Up xs) : xs.Nodup := by
  rw [List.nodup_iff_pairwise_ne, List.pairwise_iff_getElem]
  intro i j hi hj hij e
  have := h.lt i j hij hj
  rw [rd_get xs i hi, rd_get xs j hj] at this
  omega
open Classical in
noncomputable def Dk.beginR (D : Dk) (xs : List Int) : Int × Int × Dk := if D.st ≠ 0 then (0, 21, D) else if xs = [] ∨ ¬ Up xs then (0, 1, D) else ((D.dc.length : Int) + 1, 0, D.begin_ xs)
def BegPost (w : World) (lo : Nat) (K : Nat → Prop) (p : Nat) (r : Int × Int × Dk) (e : Ending) (w' : World) : Prop := e = .returned (.tuple #[.int .i64 r.1, errV r.2.1]) ∧ Leaves w lo K p r.2.2 w'
theorem Dk.beginR_busy {D : Dk} {xs : List Int} (h : D.st ≠ 0) : D.beginR xs = (0, 21, D) := if_pos h
theorem Dk.beginR_arg {D : Dk} {xs : List Int} (h : D.st = 0) (h2 : xs = [] ∨ ¬ Up xs) : D.beginR xs = (0, 1, D) := by unfold Dk.beginR; rw [if_neg (by simpa using h), if_pos h2]
theorem Dk.beginR_ok {D : Dk} {xs : List Int} (h : D.st = 0) (h2 : xs ≠ []) (h3 : Up xs) : D.beginR xs = ((D.dc.length : Int) + 1, 0, D.begin_ xs) := by unfold Dk.beginR; rw [if_neg (by simpa using h), if_neg (by rintro (h4 | h4); exact h2 h4; exact h4 h3)]
theorem BegPost.no {w : World} {lo p : Nat} {K : Nat → Prop} {D : Dk} {xs : List Int} {k : Nat} (hW : IsDesk w lo K D p) (h0 : D.st = 0) (hk : k < xs.length) (h : ¬ okB xs k) : BegPost w lo K p (D.beginR xs) (.returned (.tuple #[.int .i64 0, .iface 36 (.int .i64 1)])) w := by
  rw [Dk.beginR_arg h0 (.inr fun hu => h (hu k hk))]
  exact ⟨rfl, Leaves.refl hW⟩

theorem DeskAt.begun0 {w w1 w2 : World} {lo p cw cn cd k1 k2 : Nat} {K : Nat → Prop} {D : Dk} {Aw An Ad A1 A2 : Option Addr} {xs : List Int} (z : DeskAt w lo K D p Aw cw An cn Ad cd)
    (hb : Below w.heap.size w w1) (hb2 : Below w1.heap.size w1 w2) (hv : (Kd.int .i64).R 3 w1 w.heap.size (fun _ => True) (.slice A1 xs.length k1) xs) (hv2 : (Kd.int .i64).R 3 w2 w1.heap.size (fun _ => True) (.slice A2 xs.length k2) xs) :
    ∃ K', DeskAt ((w2.setCell ⟨p, 2, none⟩ (.slice A1 xs.length k1)).setCell ⟨p, 1, none⟩ (.slice A2 xs.length k2)) lo K' { st := D.st, ws := xs, ns := xs, dc := D.dc } p A2 k2 A1 k1 Ad cd ∧ Moved w ((w2.setCell ⟨p, 2, none⟩ (.slice A1 xs.length k1)).setCell ⟨p, 1, none⟩ (.slice A2 xs.length k2)) lo K K' := by
  have hB : Below w.heap.size w w2 := hb.trans (hb2.mono hb.size)
  have z2 := z.below hB
  have hp : p < w.heap.size := (z.kb p z.kp).2
  have hv1 := Kd.R_below hv hb2
  have r1 := row_in (b := 0) (p := p) (K := K) hv1 z.low hp
  have r2 := row_in (b := 0) (p := p) (K := K) (Kd.R_lower hv2 hb.size) z.low hp
  have hn1 : ∀ k, (Value.slice A1 xs.length k1).ownBlock = some k → (Value.slice Aw D.ws.length cw).ownBlock ≠ some k := fun k h => apart_new z.rw hv1 (Nat.le_refl _) k h
  have hn2 : ∀ k, (Value.slice A1 xs.length k1).ownBlock = some k → (Value.slice Ad D.dc.length cd).ownBlock ≠ some k := fun k h => apart_new z.rd hv1 (Nat.le_refl _) k h
  have z3 := z2.setNs (r1) (fun k h1 h2 => hn1 k h2 h1) hn2
  have hm3 := moved_set z2 z2.kp 2 (.slice A1 xs.length k1)
  have z4 := z3.setWs (Kd.R_far r2 (p := ⟨p, 2, none⟩) (fun k hk => hk.2) _) (fun k h => apart_new hv hv2 (Nat.le_refl _) k h) (fun k h => apart_new z.rd hv2 hb.size k h)
  have hm4 := moved_set z3 z3.kp 1 (.slice A2 xs.length k2)
  exact ⟨_, z4, ((Moved.of_below hB z.low K).trans hm3).trans hm4⟩
theorem DeskAt.appended {W w1 : World} {lo p cw cn cd c1 : Nat} {K ok : Nat → Prop} {D : Dk} {Aw An Ad A1 : Option Addr} {xs : List Int} (z : DeskAt W lo K D p Aw cw An cn Ad cd)
    (hr : (Kd.int .i64).R 47 w1 lo ok (.slice A1 xs.length c1) xs) (hb : Below lo W w1) (hg : W.grownBy w1 (Value.slice Ad D.dc.length cd).ownBlock)
    (hat : (Value.slice A1 xs.length c1).ownBlock = (Value.slice Ad D.dc.length cd).ownBlock ∨ ∃ b, (Value.slice A1 xs.length c1).ownBlock = some b ∧ W.heap.size ≤ b) :
    w1.heap[p]? = W.heap[p]? ∧ DeskAt (w1.setCell ⟨p, 3, none⟩ (.slice A1 xs.length c1)) lo (Kx K W w1) { D with dc := xs } p Aw cw An cn A1 c1 ∧ Moved W (w1.setCell ⟨p, 3, none⟩ (.slice A1 xs.length c1)) lo K (Kx K W w1) := by
  have hpd : ∀ k, (Value.slice Ad D.dc.length cd).ownBlock = some k → K k ∧ k ≠ p := fun k hk => z.rd.1 k hk
  have hp : w1.heap[p]? = W.heap[p]? := hg.block p (z.kb p z.kp).2 (fun e => (hpd p e.symm).2 rfl)
  have hkx : ∀ k, Kx K W w1 k → lo ≤ k ∧ k < w1.heap.size := by
    intro k hk
    have := hg.size
    have := z.low
    rcases hk with hk | hk
    · have := z.kb k hk; omega
    · omega
  have rw1 := Kd.R_grown2 z.rw rfl hg (fun k hk e => z.wd k e.symm hk)
  have rn1 := Kd.R_grown2 z.rn rfl hg (fun k hk e => z.nd k e.symm hk)
  have hnew : ∀ k, (Value.slice A1 xs.length c1).ownBlock = some k → Kx K W w1 k ∧ k ≠ p := by
    intro k hk
    rcases hat with h | ⟨b, h, hb2⟩
    · rw [hk] at h
      have := hpd k h.symm
      exact ⟨.inl this.1, this.2⟩
    · rw [hk] at h
      cases h
      have := Kd.R_lt hr k hk
      have := (z.kb p z.kp).2
      exact ⟨.inr ⟨hb2, by omega⟩, by omega⟩
  have rd1 : (Kd.int .i64).R 47 w1 lo (fun k => Kx K W w1 k ∧ k ≠ p) (.slice A1 xs.length c1) xs := Kd.R_mono (Kd.R_tight2 (d := Kd.int .i64) rfl hr) (fun k hk => hnew k hk.1.symm)
  refine ⟨hp, ⟨blk_set (hp.trans z.blk) 3 _, Kd.R_far (Kd.R_mono rw1 fun k h => ⟨.inl h.1, h.2⟩) (fun k hk => hk.2) _, Kd.R_far (Kd.R_mono rn1 fun k h => ⟨.inl h.1, h.2⟩) (fun k hk => hk.2) _, Kd.R_far rd1 (fun k hk => hk.2) _, z.wn, ?_, ?_, .inl z.kp, fun k hk => by rw [set_size]; exact hkx k hk⟩, ?_⟩
  · intro k h1 h2
    rcases hat with h | ⟨b, h, hb2⟩
    · exact z.wd k h1 (h ▸ h2)
    · rw [h] at h2
      cases h2
      have := Kd.R_lt z.rw _ h1
      omega
  · intro k h1 h2
    rcases hat with h | ⟨b, h, hb2⟩
    · exact z.nd k h1 (h ▸ h2)
    · rw [h] at h2
      cases h2
      have := Kd.R_lt z.rn _ h1
      omega
  · refine ⟨hb.setCell (z.kb p z.kp).1 _, ⟨by rw [set_size]; exact hg.size, fun k hk hn => ?_⟩, fun k hk => hk.elim .inl fun h => .inr h.1⟩
    rw [Below.heap_setCell _ _ _ _ (fun (e : k = p) => hn (e ▸ z.kp))]
    exact hg.block k hk (fun e => hn (hpd k e.symm).1)
section
variable {w : World} {lo p : Nat} {K : Nat → Prop} {D : Dk}
set_option maxRecDepth 100000 in
theorem begin_busy (hW : IsDesk w lo K D p) (A : Option Addr) (c n : Nat) (h0 : D.st ≠ 0) :
    Calls Tryd.prog 10 #[.pointer (some ⟨p, 0, none⟩), .slice A n c] w (BegPost w lo K p (0, 21, D)) := by
  have HW := Lib.hid hW
  obtain ⟨_, _, _, _, _, _, z⟩ := hW
  have c0 := blk_cell z.blk 0
  simp at c0
  have hb : (D.st != 0) = true := by simpa using h0
  clear z h0
  go_enter Tryd.func10, Tryd.ntmps10
  go_wp2
  go_ret2
  exact ⟨rfl, Leaves.refl HW.out⟩
set_option maxRecDepth 100000 in
theorem begin_empty (hW : IsDesk w lo K D p) (A : Option Addr) (c : Nat) (h0 : D.st = 0) :
    Calls Tryd.prog 10 #[.pointer (some ⟨p, 0, none⟩), .slice A 0 c] w (BegPost w lo K p (0, 1, D)) := by
  have HW := Lib.hid hW
  obtain ⟨_, _, _, _, _, _, z⟩ := hW
  have c0 := blk_cell z.blk 0
  simp [h0] at c0
  clear z h0
  go_enter Tryd.func10, Tryd.ntmps10
  go_wp2
  go_ret2
  exact ⟨rfl, Leaves.refl HW.out⟩
set_option maxRecDepth 100000 in
set_option maxHeartbeats 2000000 in
theorem begin_some (hW : IsDesk w lo K D p) (hF : Fine D) (hd : D.dc.length < 1000) (A : Option Addr) (c : Nat) (xs : List Int) (hr : (Kd.int .i64).C w A xs.length xs) (hl : xs.length * 8 ≤ 140737488351232) (h0 : D.st = 0) (hx : xs ≠ []) :
    Calls Tryd.prog 10 #[.pointer (some ⟨p, 0, none⟩), .slice A xs.length c] w (BegPost w lo K p (D.beginR xs)) := by
  have HW := Lib.hid hW
  have HR := Lib.hid hr
  have HL := Lib.hid hl
  have H0 := Lib.hid h0
  have HX := Lib.hid hx
  have HD := Lib.hid hd
  have hm : (xs.length : Int) ≤ 9223372036854775807 := by have := hr.2.1; omega
  have hlen : (1 : Int) ≤ xs.length := by have := List.length_pos_iff.2 hx; omega
  have hb : ((xs.length : Int) == 0) = false := by rw [beq_eq_false_iff_ne]; omega
  obtain ⟨_, _, _, _, _, _, z⟩ := hW
  have c0 := blk_cell z.blk 0
  simp [h0] at c0
  clear z h0 hx hr hl hF hd
  go_enter Tryd.func10, Tryd.ntmps10
  go_wp2
  clear c0 hb
  go_loop [26] (fun v => ∃ k : Nat, k ≤ xs.length ∧ v = .int .i64 k ∧ Hid (∀ j, j < k → okB xs j)) (fun v => xs.length - (intOf v).toNat)
  case atStart => exact ⟨0, Nat.zero_le _, rfl, fun j hj => by omega⟩
  case round =>
    obtain ⟨k, hk, rfl, hok⟩ := hrel
    by_cases hlt : k < xs.length
    · obtain ⟨ad, rfl, hcell⟩ := C_cell HR.out hlt
      have HLT := Lib.hid hlt
      have k0 : (0 : Int) ≤ k := by omega
      have k1 : (k : Int) < xs.length := by omega
      obtain ⟨n, hn⟩ : ∃ n, n = rd xs k := ⟨_, rfl⟩
      rw [← hn] at hcell
      have HN := Lib.hid hn
      clear hlt hn
      by_cases h0 : n < -1
      · have HF := Lib.hid (show ¬ okB xs k by unfold okB; rw [← HN.out]; omega)
        go_wp2
        go_ret2
        exact BegPost.no HW.out H0.out HLT.out HF.out
      · by_cases h8 : 8 ≤ n
        · have HF := Lib.hid (show ¬ okB xs k by unfold okB; rw [← HN.out]; omega)
          go_wp2
          go_ret2
          exact BegPost.no HW.out H0.out HLT.out HF.out
        · by_cases hk0 : k = 0
          · have HF := Lib.hid (show okB xs k by unfold okB; rw [← HN.out]; omega)
            have kz : (k : Int) ≤ 0 := by omega
            clear hk0
            go_wp2
            go_round
            case rel =>
              refine ⟨k + 1, by have := HLT.out; omega, by go_num, ?_⟩
              intro j hj
              obtain rfl : j = k := by omega
              exact HF.out
            case measure => simp [intOf]; omega
          · have hlt2 : k - 1 < xs.length := by have := HLT.out; omega
            obtain ⟨_, e, hcell2⟩ := C_cell HR.out hlt2
            cases e
            have kp : (0 : Int) < k := by omega
            obtain ⟨m, hm2⟩ : ∃ m, m = rd xs (k - 1 : Nat) := ⟨_, rfl⟩
            rw [← hm2] at hcell2
            have HM := Lib.hid hm2
            have hK : ((k : Int) - 1).toNat = k - 1 := by omega
            have HK0 := Lib.hid hk0
            clear hm2 hlt2 hk0
            by_cases hp : n ≤ m
            · have HF := Lib.hid (show ¬ okB xs k by unfold okB; rw [← HN.out, ← HM.out]; omega)
              go_wp2
              go_ret2
              exact BegPost.no HW.out H0.out HLT.out HF.out
            · have HF := Lib.hid (show okB xs k by unfold okB; rw [← HN.out, ← HM.out]; omega)
              go_wp2
              go_round
              case rel =>
                refine ⟨k + 1, by have := HLT.out; omega, by go_num, ?_⟩
                intro j hj
                by_cases e : j = k
                · subst e; exact HF.out
                · exact hok.out j (by omega)
              case measure => simp [intOf]; omega
    · have k1 : ¬ (k : Int) < xs.length := by omega
      have HUP := Lib.hid (show Up xs by intro j hj; exact hok.out j (by omega))
      clear hlt hok
      obtain ⟨Aw, cw, An, cn, Ad, cd, z⟩ := HW.out
      have Z := Lib.hid z
      clear z
      go_upto_region 13 with (fail)
      go_cut [4, 5] (fun _ _ wy => ∃ K1 A1 k1 A2 k2, Aside0 (DeskAt wy lo K1 { st := D.st, ws := xs, ns := xs, dc := D.dc } p A2 k2 A1 k1 Ad cd) ∧ Aside0 (Moved w wy lo K K1))
      case first =>
        go_wp2_with (first
          | (go_at_call 29; refine (clone_calls _ _ _ xs (Kd.C_below HR.out HB1.out) HL.out).mono ?_; rintro e w2 ⟨v2, rfl, hv2, hb2⟩; obtain ⟨A2, k2, rfl⟩ := Kd.R_slice hv2; obtain ⟨K', z4, hm4⟩ := Z.out.begun0 HB1.out hb2 HV1.out hv2; have zz := Z.out.below (HB1.out.trans (hb2.mono HB1.out.size)); have c1 := blk_cell zz.blk 1; have c2 := blk_cell zz.blk 2; simp at c1 c2; have f1 := blk_frozen zz.blk 1; have f2 := blk_frozen zz.blk 2; have Z4 := Lib.hid z4; have M4 := Lib.hid hm4; clear hv2 hb2 z4 hm4 zz)
          | (go_at_call 29; refine (clone_calls _ _ _ xs HR.out HL.out).mono ?_; rintro e w1 ⟨v1, rfl, hv1, hb1⟩; obtain ⟨A1, k1, rfl⟩ := Kd.R_slice hv1; have HV1 := Aside0.mk hv1; have HB1 := Aside0.mk hb1; clear hv1 hb1))
        go_meet
        case rel => exact ⟨_, _, _, _, _, ⟨Z4.out⟩, ⟨M4.out⟩⟩
      case rest =>
        obtain ⟨K1, A1, k1, A2, k2, H1, M1⟩ := hcut
        clear Z
        obtain ⟨wx, rfl⟩ : ∃ wx, wx = wc := ⟨_, rfl⟩
        have c0 := blk_cell H1.out.blk 0
        simp at c0
        have f0 := blk_frozen H1.out.blk 0
        go_upto_region 14 with (fail)
        go_cut [] (fun wy => Aside0 (DeskAt wy lo K1 { st := 1, ws := xs, ns := xs, dc := D.dc } p A2 k2 A1 k1 Ad cd) ∧ Aside0 (Moved w wy lo K K1))
        case first =>
          go_wp2
          go_meet
          case rel => exact ⟨⟨H1.out.setSt 1⟩, ⟨M1.out.trans (moved_set H1.out H1.out.kp 0 _)⟩⟩
        case rest =>
          obtain ⟨H2, M2⟩ := hcut
          clear H1 M1 c0 f0
          have c3 := blk_cell H2.out.blk 3
          simp at c3
          have HLT : Aside0 (lo ≤ wc.heap.size) := ⟨H2.out.low⟩
          go_wp2_with (first
            | (at_builtin; refine Kd.R_append_rows (Kd.int .i64) (w0 := wc.alloc (.cells #[.int .i64 0] 47)) lo rfl _ _ _ 47 (.int .i64 0) 8 rfl Tryd.underlying53 infoS rfl (by decide) (by omega) (.slice Ad D.dc.length cd) D.dc [0] _ 1 1 (fun k => (K1 k ∧ k ≠ p) ∨ wc.heap.size + 1 ≤ k) (fun _ => False) rfl rfl (Kd.R_mono (Kd.R_alloc H2.out.rd _) fun k hk => .inl hk) (lit_at _ _ [0] (by simp) (by simp) rfl rfl) (fun _ _ h => h) (fun _ hk => hk.elim) (fun _ hk => .inr (by simpa using hk)) (Below.refl _ _) (by have := HLT.out; simp; omega) (by have := HD.out; simp; omega) ?_; intro v1 w1 hr1 hb1 hg1 hat; obtain ⟨L, hL⟩ : ∃ L, L = D.dc ++ [0] := ⟨_, rfl⟩; rw [← hL] at hr1; obtain ⟨A3, c3, rfl⟩ := Kd.R_slice hr1; have z3 := H2.out.stay (below_alloc (Below.refl _ _) (.cells #[.int .i64 0] 47)); obtain ⟨h1, z4, m4⟩ := z3.appended hr1 hb1 hg1 hat; have k3 := blk_cell (h1.trans z3.blk) 3; have l3 := blk_frozen (h1.trans z3.blk) 3; simp at k3; have Z4 := Lib.hid z4; have M3 := Lib.hid (show Moved wc (wc.alloc (.cells #[.int .i64 0] 47)) lo K1 K1 from ⟨(below_alloc (Below.refl _ _) _).mono H2.out.low, Kept.of_below (below_alloc (Below.refl _ _) _) _, fun k hk => .inl hk⟩); have M4 := Lib.hid m4; have HL4 := Lib.hid hL; clear hr1 hb1 hg1 hat hL z3 z4 m4 h1))
          go_ret2
          rw [Dk.beginR_ok H0.out HX.out HUP.out]
          have e : L.length = D.dc.length + 1 := by rw [HL4.out]; simp
          refine ⟨?_, ?_⟩
          · rw [e]; rfl
          · have e2 : D.begin_ xs = { st := 1, ws := xs, ns := xs, dc := L } := by rw [HL4.out]; rfl
            rw [e2]
            exact ⟨_, ⟨_, _, _, _, _, _, Z4.out⟩, (M2.out.trans M3.out).trans M4.out⟩
theorem begin_calls (hW : IsDesk w lo K D p) (hF : Fine D) (hd : D.dc.length < 1000) (A : Option Addr) (c : Nat) (xs : List Int) (hr : (Kd.int .i64).C w A xs.length xs) (hl : xs.length * 8 ≤ 140737488351232) :
    Calls Tryd.prog 10 #[.pointer (some ⟨p, 0, none⟩), .slice A xs.length c] w (BegPost w lo K p (D.beginR xs)) := by
  by_cases h0 : D.st = 0
  · by_cases hx : xs = []
    · rw [Dk.beginR_arg h0 (.inl hx), hx]
      exact begin_empty hW A c h0
    · exact begin_some hW hF hd A c xs hr hl h0 hx
  · rw [Dk.beginR_busy h0]
    exact begin_busy hW A c _ h0
theorem Fine.beginR (hF : Fine D) (hd : D.dc.length < 1000) (xs : List Int) : Fine (D.beginR xs).2.2 := by
  by_cases h0 : D.st = 0
  · by_cases hx : xs = [] ∨ ¬ Up xs
    · rw [Dk.beginR_arg h0 hx]; exact hF
    · rw [not_or, Classical.not_not] at hx
      rw [Dk.beginR_ok h0 hx.1 hx.2]
      exact hF.begin_ hx.2.nine hd
  · rw [Dk.beginR_busy h0]; exact hF
theorem Fine.sayR (hF : Fine D) (node : Int) : Fine (D.sayR node).2 := by
  unfold Dk.sayR
  split
  · exact hF
  · split
    · exact hF
    · exact hF.say node
theorem Fine.readyR (hF : Fine D) (i node : Int) : Fine (D.readyR i node).2 := by
  unfold Dk.readyR
  split
  · exact hF.sayR node
  · exact hF
theorem Fine.doneR (hF : Fine D) (i node : Int) : Fine (D.doneR i node).2 := by
  unfold Dk.doneR
  split
  · exact hF.sayR node
  · exact hF
theorem Fine.cancelR (hF : Fine D) (i : Int) : Fine (D.cancelR i).2 := by
  unfold Dk.cancelR
  split
  · rename_i h
    exact hF.decide (by omega) (by omega) (hF.d0 (by omega))
  · exact hF
theorem Fine.recoverR (hF : Fine D) : Fine D.recoverR := by
  unfold Dk.recoverR
  split
  · rename_i h
    exact hF.decide (by omega) (by omega) (hF.d0 (by omega))
  · exact hF
end
end Go.Proofs.YtmhfigkdeeldnaaDoor
