/- What a desk does: say. -/
import Derived.Test.YtmhfigkdeeldnaaDoorCmOps
import Derived.Deep.DeepCutAuto
import Derived.BigQuiet
import Derived.Deep.QuietTactic
namespace Go.Proofs.YtmhfigkdeeldnaaDoor
open Go.RowKit Go.Proofs.YtmhfigkdeeldnaaDoorW.PrintWords Go.Proofs.YtmhfigkdeeldnaaDoorW.PrintLast Go.Proofs.YtmhfigkdeeldnaaDoorW.PrintMore
set_option linter.unusedVariables false
set_option linter.unusedSimpArgs false

/-- In the midst of say: the node lies in a box of its own. -/
structure SayW (w wx : World) (lo : Nat) (K : Nat → Prop) (D : Dk) (p : Nat) (b : Nat) (node : Int) : Prop where
  desk : IsDesk wx lo K D p
  box : wx.cell? ⟨b, 0, none⟩ = some (.int .i64 node)
  far : ¬ K b
  moved : Moved w wx lo K K
theorem SayW.drewN {w wx : World} {lo b p : Nat} {K : Nat → Prop} {D : Dk} {node : Int} (h : SayW w wx lo K D p b node) (m : Nat) : SayW w (wx.drewN m) lo K D p b node :=
  ⟨h.desk.move (fun _ _ => rfl) (Nat.le_refl _), h.box, h.far, moved_drewN h.moved m⟩
theorem SayW.start {w : World} {lo p : Nat} {K : Nat → Prop} {D : Dk} {node : Int} (h : IsDesk w lo K D p) : SayW w (w.alloc (.cells #[.int .i64 node] 3)) lo K D p w.heap.size node := by
  have hb := below_alloc (Below.refl w.heap.size w) (.cells #[.int .i64 node] 3)
  refine ⟨h.stay hb, ?_, fun hk => ?_, ?_⟩
  · rw [World.cell?_alloc_new]; rfl
  · have := (h.kb _ hk).2; omega
  · obtain ⟨_, _, _, _, _, _, z⟩ := h
    exact ⟨hb.mono z.low, Kept.of_below hb K, fun k hk => .inl hk⟩
theorem DeskAt.deleted {w w1 : World} {lo p cw cn cd g : Nat} {K : Nat → Prop} {D : Dk} {An Ad : Option Addr} {node : Int} {e : Ending} (z : DeskAt w lo K D p (some ⟨g, 0, none⟩) cw An cn Ad cd)
    (h : DelPost w lo (fun k => K k ∧ k ≠ p) g cw D.ws node e w1) :
    w1.heap[p]? = w.heap[p]? ∧ DeskAt (w1.setCell ⟨p, 1, none⟩ (.slice (some ⟨g, 0, none⟩) (drops node D.ws).length cw)) lo K (D.drop node) p (some ⟨g, 0, none⟩) cw An cn Ad cd ∧ Moved w (w1.setCell ⟨p, 1, none⟩ (.slice (some ⟨g, 0, none⟩) (drops node D.ws).length cw)) lo K K := by
  obtain ⟨_, h2, h3, h4⟩ := h
  have hg : K g ∧ g ≠ p := z.rw.1 g (by simp [Value.ownBlock])
  have hp : w1.heap[p]? = w.heap[p]? := h4.2 p (z.kb p z.kp).2 (fun e => hg.2 e.symm)
  have hn : ∀ k, (Value.slice An D.ns.length cn).ownBlock = some k → ¬ k = g := fun k hk e => z.wn g (by simp [Value.ownBlock]) (e ▸ hk)
  have hd : ∀ k, (Value.slice Ad D.dc.length cd).ownBlock = some k → ¬ k = g := fun k hk e => z.wd g (by simp [Value.ownBlock]) (e ▸ hk)
  have hs : ∀ k, K k → lo ≤ k ∧ k < w1.heap.size := fun k hk => ⟨(z.kb k hk).1, Nat.lt_of_lt_of_le (z.kb k hk).2 h3.size⟩
  refine ⟨hp, ⟨blk_set (hp.trans z.blk) 1 _, Kd.R_far h2 (fun k hk => hk.2) _, Kd.R_far (R_far_own z.rn h4 hn) (fun k hk => hk.2) _, Kd.R_far (R_far_own z.rd h4 hd) (fun k hk => hk.2) _, ?_, ?_, z.nd, z.kp, fun k hk => by rw [set_size]; exact hs k hk⟩, ?_⟩
  · exact fun k hk => z.wn k (by simpa [Value.ownBlock] using hk)
  · exact fun k hk => z.wd k (by simpa [Value.ownBlock] using hk)
  · refine ⟨h3.setCell (z.kb p z.kp).1 _, ⟨by rw [set_size]; exact h3.size, fun k hk hn => ?_⟩, fun k hk => .inl hk⟩
    rw [Below.heap_setCell _ _ _ _ (fun (e : k = p) => hn (e ▸ z.kp))]
    exact h4.2 k hk (fun e => hn (e ▸ hg.1))

section
variable {w : World} {lo p : Nat} {K : Nat → Prop} {D : Dk}
set_option maxRecDepth 100000 in
set_option maxHeartbeats 1000000 in
theorem say_none (hW : IsDesk w lo K D p) (node : Int) (hn : node ∉ D.ns) :
    Calls Tryd.prog 34 #[.pointer (some ⟨p, 0, none⟩), .int .i64 node] w (Says w lo K p (12, D)) := by
  have HS := Lib.hid (SayW.start (node := node) hW)
  have hd : decide (node ∈ D.ns) = false := by simpa using hn
  clear hW hn
  go_enter Tryd.func34, Tryd.ntmps34
  go_upto_region 0 with (fail)
  go_cut [3, 4] (fun s3 s4 wx => s4 = .nilIface ∧ ∃ b, s3 = .pointer (some ⟨b, 0, none⟩) ∧ Aside0 (SayW w wx lo K D p b node))
  case first =>
    go_wp2
    go_meet
    case rel => exact ⟨rfl, _, rfl, ⟨HS.out⟩⟩
  case rest =>
    clear HS
    obtain ⟨rfl, b, rfl, H⟩ := hcut
    obtain ⟨Aw, cw, An, cn, Ad, cd, z⟩ := H.out.desk
    have c2 := blk_cell z.blk 2
    simp at c2
    have hbx := H.out.box
    have HC := Lib.hid (Kd.R_reads' z.rn).2.2
    clear z
    go_wp2
    go_quiet ((go_at_call 40; exact Calls.quiet_of_same ((contains_calls _ _ _ D.ns _ (Kd.C_drewN HC.out _)).mono fun _ _ ⟨h, k⟩ => ⟨h, k.symm⟩)))
    go_wp2
    go_ret
    exact ⟨rfl, K, H.out.desk.move (fun _ _ => rfl) (Nat.le_refl _), moved_drewN H.out.moved _⟩
set_option maxRecDepth 100000 in
set_option maxHeartbeats 1000000 in
theorem say_again (hW : IsDesk w lo K D p) (node : Int) (hn : node ∈ D.ns) (hv : node ∉ D.ws) :
    Calls Tryd.prog 34 #[.pointer (some ⟨p, 0, none⟩), .int .i64 node] w (Says w lo K p (9, D)) := by
  have HS := Lib.hid (SayW.start (node := node) hW)
  have hd : decide (node ∈ D.ns) = true := by simpa using hn
  have hd2 : decide (node ∈ D.ws) = false := by simpa using hv
  clear hW hn hv
  go_enter Tryd.func34, Tryd.ntmps34
  go_upto_region 0 with (fail)
  go_cut [3, 4] (fun s3 s4 wx => s4 = .nilIface ∧ ∃ b, s3 = .pointer (some ⟨b, 0, none⟩) ∧ Aside0 (SayW w wx lo K D p b node))
  case first =>
    go_wp2
    go_meet
    case rel => exact ⟨rfl, _, rfl, ⟨HS.out⟩⟩
  case rest =>
    clear HS
    obtain ⟨rfl, b, rfl, H⟩ := hcut
    obtain ⟨Aw, cw, An, cn, Ad, cd, z⟩ := H.out.desk
    have c2 := blk_cell z.blk 2
    have c1 := blk_cell z.blk 1
    simp at c2 c1
    have hbx := H.out.box
    have HC := Lib.hid (Kd.R_reads' z.rn).2.2
    have HCw := Lib.hid (Kd.R_reads' z.rw).2.2
    clear z
    obtain ⟨wx, rfl⟩ : ∃ wx, wx = wc := ⟨_, rfl⟩
    go_upto_region 1 with (fail)
    go_cut [5] (fun s5 wy => s5 = .bool false ∧ Aside0 (∃ m, wy = wx.drewN m))
    case first =>
      go_wp2
      go_quiet ((go_at_call 40; exact Calls.quiet_of_same ((contains_calls _ _ _ D.ns _ (Kd.C_drewN HC.out _)).mono fun _ _ ⟨h, k⟩ => ⟨h, k.symm⟩)))
      go_wp2
      go_meet
      case rel => exact ⟨rfl, ⟨_, rfl⟩⟩
    case rest =>
      obtain ⟨rfl, hm⟩ := hcut
      have H1 : Aside0 (SayW w wc lo K D p b node) := by
        obtain ⟨m, rfl⟩ := hm.out
        exact ⟨H.out.drewN m⟩
      clear H hm c1 c2 hbx HC HCw
      obtain ⟨Aw, cw, An, cn, Ad, cd, z⟩ := H1.out.desk
      have c1 := blk_cell z.blk 1
      simp at c1
      have hbx := H1.out.box
      have HC := Lib.hid (Kd.R_reads' z.rw).2.2
      clear z
      go_wp2
      go_quiet ((go_at_call 40; exact Calls.quiet_of_same ((contains_calls _ _ _ D.ws _ (Kd.C_drewN HC.out _)).mono fun _ _ ⟨h, k⟩ => ⟨h, k.symm⟩)))
      go_wp2
      go_ret
      exact ⟨rfl, K, H1.out.desk.move (fun _ _ => rfl) (Nat.le_refl _), moved_drewN H1.out.moved _⟩
set_option maxRecDepth 100000 in
set_option maxHeartbeats 2000000 in
theorem say_goes (hW : IsDesk w lo K D p) (hF : Fine D) (node : Int) (hn : node ∈ D.ns) (hv : node ∈ D.ws) (h0 : D.st ≠ 0) :
    Calls Tryd.prog 34 #[.pointer (some ⟨p, 0, none⟩), .int .i64 node] w (Says w lo K p (0, D.say node)) := by
  have HS := Lib.hid (SayW.start (node := node) hW)
  have hd : decide (node ∈ D.ns) = true := by simpa using hn
  have hd2 : decide (node ∈ D.ws) = true := by simpa using hv
  have HV := Lib.hid hv
  have HF := Lib.hid hF
  have H0 := Lib.hid h0
  clear hW hn hv hF h0
  go_enter Tryd.func34, Tryd.ntmps34
  go_upto_region 0 with (fail)
  go_cut [3, 4] (fun s3 s4 wx => s4 = .nilIface ∧ ∃ b, s3 = .pointer (some ⟨b, 0, none⟩) ∧ Aside0 (SayW w wx lo K D p b node))
  case first =>
    go_wp2
    go_meet
    case rel => exact ⟨rfl, _, rfl, ⟨HS.out⟩⟩
  case rest =>
    clear HS
    obtain ⟨rfl, b, rfl, H⟩ := hcut
    obtain ⟨Aw, cw, An, cn, Ad, cd, z⟩ := H.out.desk
    have c2 := blk_cell z.blk 2
    have c1 := blk_cell z.blk 1
    simp at c2 c1
    have hbx := H.out.box
    have HC := Lib.hid (Kd.R_reads' z.rn).2.2
    have HCw := Lib.hid (Kd.R_reads' z.rw).2.2
    clear z
    obtain ⟨wx, rfl⟩ : ∃ wx, wx = wc := ⟨_, rfl⟩
    go_upto_region 1 with (fail)
    go_cut [5] (fun s5 wy => s5 = .bool false ∧ Aside0 (∃ m, wy = wx.drewN m))
    case first =>
      go_wp2
      go_quiet ((go_at_call 40; exact Calls.quiet_of_same ((contains_calls _ _ _ D.ns _ (Kd.C_drewN HC.out _)).mono fun _ _ ⟨h, k⟩ => ⟨h, k.symm⟩)))
      go_wp2
      go_meet
      case rel => exact ⟨rfl, ⟨_, rfl⟩⟩
    case rest =>
      obtain ⟨rfl, hm⟩ := hcut
      have H1 : Aside0 (SayW w wc lo K D p b node) := by
        obtain ⟨m, rfl⟩ := hm.out
        exact ⟨H.out.drewN m⟩
      clear H hm c1 c2 hbx HC HCw
      obtain ⟨wx, rfl⟩ : ∃ wx, wx = wc := ⟨_, rfl⟩
      go_upto_region 3 with (fail)
      go_cut [14] (fun s14 wy => s14 = .bool false ∧ Aside0 (∃ m, wy = wx.drewN m))
      case first =>
        obtain ⟨Aw, cw, An, cn, Ad, cd, z⟩ := H1.out.desk
        have c1 := blk_cell z.blk 1
        simp at c1
        have hbx := H1.out.box
        have HC := Lib.hid (Kd.R_reads' z.rw).2.2
        clear z
        go_wp2
        go_quiet ((go_at_call 40; exact Calls.quiet_of_same ((contains_calls _ _ _ D.ws _ (Kd.C_drewN HC.out _)).mono fun _ _ ⟨h, k⟩ => ⟨h, k.symm⟩)))
        go_wp2
        go_meet
        case rel => exact ⟨rfl, ⟨_, rfl⟩⟩
      case rest =>
        obtain ⟨rfl, hm⟩ := hcut
        have H2 : Aside0 (SayW w wc lo K D p b node) := by
          obtain ⟨m, rfl⟩ := hm.out
          exact ⟨H1.out.drewN m⟩
        clear H1 hm
        obtain ⟨wx, rfl⟩ : ∃ wx, wx = wc := ⟨_, rfl⟩
        go_upto_region 5 with (fail)
        go_cut [] (fun wy => Aside0 (IsDesk wy lo K (D.drop node) p) ∧ Aside0 (Moved w wy lo K K))
        case first =>
          obtain ⟨Aw, cw, An, cn, Ad, cd, z⟩ := H2.out.desk
          obtain ⟨ad, rfl, _⟩ := C_cell (Kd.R_reads' z.rw).2.2 (k := 0) (List.length_pos_of_mem HV.out)
          obtain ⟨g, rfl⟩ := Kd.R_head z.rw
          have c1 := blk_cell z.blk 1
          simp at c1
          have f1 := blk_frozen z.blk 1
          have Z := Lib.hid z
          have HBG := Lib.hid (show b ≠ g from fun e => H2.out.far (e ▸ (z.rw.1 g (by simp [Value.ownBlock])).1))
          clear z
          go_wp2_with (go_at_call 41; refine (deleteFunc_calls wx lo (fun k => K k ∧ k ≠ p) g cw D.ws b node Z.out.rw H2.out.box HBG.out HV.out HF.out.w9).mono ?_; rintro e w1 hp; obtain rfl := hp.1; obtain ⟨h1, h2, h3⟩ := Z.out.deleted hp; have k1 := blk_cell (h1.trans Z.out.blk) 1; have l1 := blk_frozen (h1.trans Z.out.blk) 1; simp at k1; have HD := Lib.hid h2; have HM := Lib.hid h3; clear hp h1 h2 h3)
          go_meet
          case rel => exact ⟨⟨⟨_, _, _, _, _, _, HD.out⟩⟩, ⟨H2.out.moved.trans HM.out⟩⟩
        case rest =>
          obtain ⟨H3, HM⟩ := hcut
          clear H2
          obtain ⟨Aw, cw, An, cn, Ad, cd, z⟩ := H3.out
          have z' := z
          have hne : D.dc ≠ [] := HF.out.d0 H0.out
          have hF2 : Fine (D.drop node) := ⟨HF.out.s0, HF.out.s3, Nat.le_trans (drops_len _ _) HF.out.w9, HF.out.n9, HF.out.d0, HF.out.dm⟩
          have c1 : wc.cell? ⟨p, 1, none⟩ = some (.slice Aw (drops node D.ws).length cw) := by have := blk_cell z.blk 1; simpa [Dk.drop] using this
          have c0 : wc.cell? ⟨p, 0, none⟩ = some (.int .i64 D.st) := by have := blk_cell z.blk 0; simpa [Dk.drop] using this
          have c2 : wc.cell? ⟨p, 2, none⟩ = some (.slice An D.ns.length cn) := by have := blk_cell z.blk 2; simpa [Dk.drop] using this
          have f0 := blk_frozen z.blk 0
          have f2 := blk_frozen z.blk 2
          have Z := Lib.hid z
          clear z z'
          by_cases hl : drops node D.ws = []
          · have hlen : (drops node D.ws).length = 0 := by rw [hl]; rfl
            rw [hlen] at c1
            by_cases h1 : D.st = 1
            · have HR := Lib.hid (show D.say node = (D.drop node).decide 2 by unfold Dk.say; rw [if_neg (by simp [hl]), if_pos h1]; rfl)
              rw [h1] at c0
              have HF2 := Lib.hid hF2
              have HNE := Lib.hid (show (D.drop node).dc ≠ [] from hne)
              clear hl hlen h1 hF2 hne
              go_wp2_with (go_at_call 30; refine (decide_calls H3.out HF2.out HNE.out 2).mono ?_; rintro e w1 ⟨rfl, h1⟩; have H1 := Lib.hid h1; clear h1)
              go_ret
              rw [HR.out]
              exact ⟨rfl, H1.out.then_ HM.out⟩
            · have HR := Lib.hid (show D.say node = { st := 0, ws := [], ns := [], dc := D.dc } by unfold Dk.say; rw [if_neg (by simp [hl]), if_neg h1])
              have HL := Lib.hid hl
              have h23 : D.st = 2 ∨ D.st = 3 := by have := HF.out.s0; have := HF.out.s3; have := H0.out; omega
              have hfin : Aside0 (Leaves w lo K p { st := 0, ws := [], ns := [], dc := D.dc } ((wc.setCell ⟨p, 0, none⟩ (.int .i64 0)).setCell ⟨p, 2, none⟩ (.slice none 0 0))) := by
                have z1 := Z.out.setSt 0
                have z2 := z1.setNs (A1 := none) (c1 := 0) (xs := []) (Kd.R_nil _ _ _ _ _) (by intro k hk; simp [Value.ownBlock]) (by intro k hk; simp [Value.ownBlock] at hk)
                have hm1 := moved_set Z.out Z.out.kp 0 (.int .i64 0)
                have hm2 := moved_set z1 z1.kp 2 (.slice none 0 0)
                have z3 : IsDesk ((wc.setCell ⟨p, 0, none⟩ (.int .i64 0)).setCell ⟨p, 2, none⟩ (.slice none 0 0)) lo K { st := 0, ws := [], ns := [], dc := D.dc } p := by
                  have : ({ st := 0, ws := [], ns := [], dc := D.dc } : Dk) = { st := 0, ws := drops node D.ws, ns := [], dc := D.dc } := by rw [hl]
                  rw [this]
                  exact ⟨_, _, _, _, _, _, z2⟩
                exact ⟨K, z3, (HM.out.trans hm1).trans hm2⟩
              clear hl hlen h1 hF2 hne Z
              rcases h23 with h2 | h2
              all_goals
                rw [h2] at c0
                clear h2
                go_wp2
                go_ret
                rw [HR.out]
                exact ⟨rfl, hfin.out⟩
          · have hl0 : (drops node D.ws).length > 0 := List.length_pos_iff.2 hl
            have hl1 : ((drops node D.ws).length : Int) > 0 := by omega
            have HR := Lib.hid (show D.say node = D.drop node from if_pos hl)
            clear hl
            go_wp2
            go_ret
            rw [HR.out]
            exact ⟨rfl, K, H3.out, HM.out⟩
theorem say_calls (hW : IsDesk w lo K D p) (hF : Fine D) (node : Int) (h0 : D.st ≠ 0) :
    Calls Tryd.prog 34 #[.pointer (some ⟨p, 0, none⟩), .int .i64 node] w (Says w lo K p (D.sayR node)) := by
  unfold Dk.sayR
  by_cases h1 : node ∈ D.ns
  · rw [if_neg (by simpa using h1)]
    by_cases h2 : node ∈ D.ws
    · rw [if_neg (by simpa using h2)]
      exact say_goes hW hF node h1 h2 h0
    · rw [if_pos h2]
      exact say_again hW node h1 h2
  · rw [if_pos h1]
    exact say_none hW node h1
end
end Go.Proofs.YtmhfigkdeeldnaaDoor
