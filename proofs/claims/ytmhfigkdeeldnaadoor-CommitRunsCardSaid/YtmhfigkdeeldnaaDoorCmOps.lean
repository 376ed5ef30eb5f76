/- What a desk does: decide. -/
import Derived.Test.YtmhfigkdeeldnaaDoorCmGet
import Derived.Deep.DeepCutAuto
import Derived.Test.YtmhfigkdeeldnaaDoorWApart
import Derived.RegionTactic
import Derived.ChangeAlike
namespace Go.Proofs.YtmhfigkdeeldnaaDoor
open Go.RowKit Go.Proofs.YtmhfigkdeeldnaaDoorW.PrintWords Go.Proofs.YtmhfigkdeeldnaaDoorW.PrintLast Go.Proofs.YtmhfigkdeeldnaaDoorW.PrintMore
set_option linter.unusedVariables false
set_option linter.unusedSimpArgs false

def errV (c : Int) : Value := if c = 0 then .nilIface else .iface 36 (.int .i64 c)
def Dk.sayR (D : Dk) (node : Int) : Int × Dk := if node ∉ D.ns then (12, D) else if node ∉ D.ws then (9, D) else (0, D.say node)
def Dk.readyR (D : Dk) (i node : Int) : Int × Dk := if D.st = 1 ∧ i = D.dc.length then D.sayR node else (21, D)
def Dk.doneR (D : Dk) (i node : Int) : Int × Dk := if (D.st = 2 ∨ D.st = 3) ∧ i = D.dc.length then D.sayR node else (21, D)
def Dk.cancelR (D : Dk) (i : Int) : Int × Dk := if D.st = 1 ∧ i = D.dc.length then (0, D.decide 3) else (21, D)
def Dk.recoverR (D : Dk) : Dk := if D.st = 1 then D.decide 3 else D
/-- What a call makes of a desk. -/
def Leaves (w : World) (lo : Nat) (K : Nat → Prop) (p : Nat) (D' : Dk) (w' : World) : Prop := ∃ K', IsDesk w' lo K' D' p ∧ Moved w w' lo K K'
def Says (w : World) (lo : Nat) (K : Nat → Prop) (p : Nat) (r : Int × Dk) (e : Ending) (w' : World) : Prop := e = .returned (errV r.1) ∧ Leaves w lo K p r.2 w'
theorem Leaves.refl {w : World} {lo : Nat} {K : Nat → Prop} {p : Nat} {D : Dk} (h : IsDesk w lo K D p) : Leaves w lo K p D w := ⟨K, h, Moved.refl _ _ _⟩
theorem Leaves.then_ {w w1 w2 : World} {lo : Nat} {K K1 : Nat → Prop} {p : Nat} {D : Dk} (h : Moved w w1 lo K K1) (k : Leaves w1 lo K1 p D w2) : Leaves w lo K p D w2 := by
  obtain ⟨K', h1, h2⟩ := k
  exact ⟨K', h1, h.trans h2⟩
theorem DeskAt.drewN {w : World} {lo p cw cn cd : Nat} {K : Nat → Prop} {D : Dk} {Aw An Ad : Option Addr} (z : DeskAt w lo K D p Aw cw An cn Ad cd) (m : Nat) : DeskAt (w.drewN m) lo K D p Aw cw An cn Ad cd := z.move (fun _ _ => rfl) (Nat.le_refl _)
theorem moved_drewN {w w1 : World} {lo : Nat} {K K1 : Nat → Prop} (h : Moved w w1 lo K K1) (m : Nat) : Moved w (w1.drewN m) lo K K1 := h.trans ⟨pw_below_drewN (Below.refl _ _) _, ⟨Nat.le_refl _, fun _ _ _ => rfl⟩, fun _ h => .inl h⟩
theorem DeskAt.decided0 {w w1 : World} {lo p cw cn cd k1 : Nat} {K : Nat → Prop} {D : Dk} {Aw An Ad A1 : Option Addr} (z : DeskAt w lo K D p Aw cw An cn Ad cd) (hb : Below w.heap.size w w1) (hv : (Kd.int .i64).R 3 w1 w.heap.size (fun _ => True) (.slice A1 D.ns.length k1) D.ns) (s : Int) :
    DeskAt ((w1.setCell ⟨p, 0, none⟩ (.int .i64 s)).setCell ⟨p, 1, none⟩ (.slice A1 D.ns.length k1)) lo (Kx K w w1) { st := s, ws := D.ns, ns := D.ns, dc := D.dc } p A1 k1 An cn Ad cd ∧ Moved w ((w1.setCell ⟨p, 0, none⟩ (.int .i64 s)).setCell ⟨p, 1, none⟩ (.slice A1 D.ns.length k1)) lo K (Kx K w w1) := by
  have z1 := z.below hb
  have z2 := z1.setSt s
  have hp : p < w.heap.size := (z.kb p z.kp).2
  have hr := row_in (b := 0) (p := p) (K := K) hv z.low hp
  have hr2 := Kd.R_far hr (p := ⟨p, 0, none⟩) (fun k hk => hk.2) (.int .i64 s)
  refine ⟨z2.setWs hr2 ?_ ?_, ((Moved.of_below hb z.low K).trans (moved_set z1 z1.kp 0 _)).trans (moved_set z2 z2.kp 1 _)⟩
  · exact fun k h => apart_new z.rn hv (Nat.le_refl _) k h
  · exact fun k h => apart_new z.rd hv (Nat.le_refl _) k h
theorem last_cells {w : World} {lo p cw cn cd : Nat} {K : Nat → Prop} {D : Dk} {Aw An Ad : Option Addr} (z : DeskAt w lo K D p Aw cw An cn Ad cd) (hd : D.dc ≠ []) :
    ∃ g, Ad = some ⟨g, 0, none⟩ ∧ (∃ v, w.cell? ⟨g, D.dc.length - 1, none⟩ = some v) ∧ w.frozen? ⟨g, D.dc.length - 1, none⟩ = false := by
  have hl : 0 < D.dc.length := List.length_pos_iff.2 hd
  have hr := z.rd
  obtain ⟨ad, rfl, _⟩ := C_cell (Kd.R_reads' hr).2.2 hl
  obtain ⟨g, rfl⟩ := Kd.R_head hr
  obtain ⟨h1, h2⟩ := Kd.R_celln (enc := Value.int .i64) 0 hr ((D.dc.length - 1 : Nat) : Int) (by omega) (by omega)
  rw [Int.toNat_natCast] at h1 h2
  exact ⟨g, rfl, ⟨_, h1⟩, h2⟩
theorem R_far1set {e base g : Nat} {ok : Nat → Prop} {w : World} {v : Value} {xs : List Int} (h : (Kd.int .i64).R e w base ok v xs) (hne : some g ≠ v.ownBlock) (i : Nat) (u : Value) : (Kd.int .i64).R e (w.setCell ⟨g, i, none⟩ u) base ok v xs :=
  Kd.R_mono (Kd.R_far (Kd.R_far1 h rfl hne) (p := ⟨g, i, none⟩) (fun k hk => hk.2) u) (fun _ hk => hk.1)
theorem DeskAt.setLast {w : World} {lo p cw cn cd g : Nat} {K : Nat → Prop} {D : Dk} {Aw An : Option Addr} (z : DeskAt w lo K D p Aw cw An cn (some ⟨g, 0, none⟩) cd) (s : Int) (i : Nat) :
    DeskAt (w.setCell ⟨g, i, none⟩ (.int .i64 s)) lo K { D with dc := D.dc.set i s } p Aw cw An cn (some ⟨g, 0, none⟩) cd ∧ Moved w (w.setCell ⟨g, i, none⟩ (.int .i64 s)) lo K K := by
  have hg : K g ∧ g ≠ p := z.rd.1 g (by simp [Value.ownBlock])
  have h3 := Kd.R_putn (enc := Value.int .i64) z.rd (i : Int) s
  simp only [Int.toNat_natCast] at h3
  have hm := moved_set z hg.1 i (.int .i64 s)
  have hl : (D.dc.set i s).length = D.dc.length := List.length_set
  refine ⟨⟨?_, ?_, ?_, ?_, z.wn, ?_, ?_, z.kp, fun k hk => by rw [set_size]; exact z.kb k hk⟩, hm⟩
  · rw [Below.heap_setCell _ _ _ _ hg.2.symm, z.blk, hl]
  · exact R_far1set z.rw (fun e => z.wd g e.symm (by simp [Value.ownBlock])) i _
  · exact R_far1set z.rn (fun e => z.nd g e.symm (by simp [Value.ownBlock])) i _
  · rw [hl]; exact h3
  · rw [hl]; exact z.wd
  · rw [hl]; exact z.nd
/-- A literal that was made ahead. -/
theorem Leaves.lits {w w1 : World} {lo : Nat} {K : Nat → Prop} {p : Nat} {D D' : Dk} {o : Obj} (k : Leaves (w.alloc o) lo K p D' w1) (h : IsDesk w lo K D p) : Leaves w lo K p D' w1 := by
  obtain ⟨K', h1, h2⟩ := k
  obtain ⟨_, _, _, _, _, _, z⟩ := h
  refine ⟨K', h1, ((below_alloc (Below.refl _ _) o).mono z.low).trans h2.below, (Kept.of_below (below_alloc (Below.refl _ _) o) K).then_ h2.kept (fun k hk => .inl hk), fun k hk => (h2.new k hk).elim .inl fun h3 => .inr (by simp at h3; omega)⟩
section
variable {w : World} {lo p : Nat} {K : Nat → Prop} {D : Dk}
set_option maxRecDepth 100000 in
theorem decide_calls (hW : IsDesk w lo K D p) (hF : Fine D) (hd : D.dc ≠ []) (s : Int) :
    Calls Tryd.prog 30 #[.pointer (some ⟨p, 0, none⟩), .int .i64 s] w fun e w' => e = .returned (.tuple #[]) ∧ Leaves w lo K p (D.decide s) w' := by
  obtain ⟨Aw, cw, An, cn, Ad, cd, z⟩ := hW
  have c2 := blk_cell z.blk 2
  simp at c2
  have HC := Lib.hid (Kd.R_reads' z.rn).2.2
  have h9 := Lib.hid hF.n9
  have Z := Lib.hid z
  have HD := Lib.hid hd
  have HF := Lib.hid hF
  clear z hF hd
  go_enter Tryd.func30, Tryd.ntmps30
  go_upto_region 0 with (fail)
  go_cut [] (fun wx => ∃ K1 A1 k1, Aside0 (DeskAt wx lo K1 { st := s, ws := D.ns, ns := D.ns, dc := D.dc } p A1 k1 An cn Ad cd) ∧ Aside0 (Moved w wx lo K K1))
  case first =>
    go_wp2_with (go_at_call 29; refine (clone_calls _ _ _ D.ns HC.out (by have := h9.out; omega)).mono ?_; rintro e w1 ⟨v, rfl, hv, hb⟩; obtain ⟨A1, k1, rfl, _, _⟩ := Kd.R_reads hv; have Z1 := Lib.hid (Z.out.below hb); have HV := Lib.hid hv; have HB := Lib.hid hb; have c0 := blk_cell Z1.out.blk 0; have f0 := blk_frozen Z1.out.blk 0; have c1 := blk_cell Z1.out.blk 1; have f1 := blk_frozen Z1.out.blk 1; simp at c0 c1; clear hv hb)
    go_meet
    case rel =>
      obtain ⟨h1, h2⟩ := Z.out.decided0 HB.out HV.out s
      exact ⟨_, _, _, ⟨h1⟩, ⟨h2⟩⟩
  case rest =>
    obtain ⟨K1, A1, k1, H1, H2⟩ := hcut
    have c3 := blk_cell H1.out.blk 3
    simp at c3
    obtain ⟨g, rfl, ⟨v, hc⟩, hf⟩ := last_cells H1.out HD.out
    have hl1 : (1 : Int) ≤ D.dc.length := by have := List.length_pos_iff.2 HD.out; omega
    have hl2 : (D.dc.length : Int) ≤ 1000 := by have := HF.out.dm; omega
    have ht : ((D.dc.length : Int) - 1).toNat = D.dc.length - 1 := by omega
    go_wp2
    go_region
    all_goals
      go_end0
      obtain ⟨h1, h2⟩ := H1.out.setLast s (D.dc.length - 1)
      exact ⟨rfl, K1, ⟨_, _, _, _, _, _, h1.drewN 1⟩, moved_drewN (H2.out.trans h2) 1⟩
set_option maxRecDepth 100000 in
theorem cancel_calls (hW : IsDesk w lo K D p) (hF : Fine D) (i : Int) :
    Calls Tryd.prog 15 #[.pointer (some ⟨p, 0, none⟩), .int .i64 i] w (Says w lo K p (D.cancelR i)) := by
  have HW := Lib.hid hW
  have HF := Lib.hid hF
  have hlit := Lib.hid (IsDesk.stay hW (below_alloc (Below.refl _ _) (.cells #[.int .i64 1] 47)))
  by_cases h : D.st = 1 ∧ i = D.dc.length
  · have hb : (i == (D.dc.length : Int) && decide (D.st ∈ [(1 : Int)])) = true := by simp [h.1, h.2]
    have HB := Lib.hid hb
    have HD := Lib.hid (hF.d0 (by omega))
    have HR := Lib.hid (show D.cancelR i = (0, D.decide 3) from if_pos h)
    clear hb hW hF h
    go_enter Tryd.func15, Tryd.ntmps15
    go_wp2_with (first
      | (go_at_call 33; refine (now_calls hlit.out _ _ _ [1] (lit_at _ _ [1] (by simp) (by simp) rfl rfl)).mono ?_; rintro e w' ⟨rfl, rfl⟩; rw [HB.out])
      | (go_at_call 30; refine (decide_calls hlit.out HF.out HD.out 3).mono ?_; rintro e w1 ⟨rfl, h1⟩; have H1 := Lib.hid h1; clear h1))
    go_ret
    rw [HR.out]
    exact ⟨rfl, (H1.out.lits HW.out)⟩
  · have hb : (i == (D.dc.length : Int) && decide (D.st ∈ [(1 : Int)])) = false := by
      rw [Bool.and_eq_false_iff]
      by_cases h1 : i = D.dc.length
      · right; simp; omega
      · left; simpa using h1
    have HB := Lib.hid hb
    have HR := Lib.hid (show D.cancelR i = (21, D) from if_neg h)
    clear hb hW hF h
    go_enter Tryd.func15, Tryd.ntmps15
    go_wp2_with (first
      | (go_at_call 33; refine (now_calls hlit.out _ _ _ [1] (lit_at _ _ [1] (by simp) (by simp) rfl rfl)).mono ?_; rintro e w' ⟨rfl, rfl⟩; rw [HB.out]))
    go_ret
    rw [HR.out]
    exact ⟨rfl, (Leaves.refl hlit.out).lits HW.out⟩
end
end Go.Proofs.YtmhfigkdeeldnaaDoor
