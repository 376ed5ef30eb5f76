/- How a desk lies in memory: a struct of a state and three lists; all its blocks are among a set of blocks, which grows. -/
import Derived.Test.YtmhfigkdeeldnaaDoorContains
import Derived.Test.YtmhfigkdeeldnaaDoorCmDel
namespace Go.Proofs.YtmhfigkdeeldnaaDoor
open Go.RowKit Go.Proofs.YtmhfigkdeeldnaaDoorW.PrintWords Go.Proofs.YtmhfigkdeeldnaaDoorW.PrintLast Go.Proofs.YtmhfigkdeeldnaaDoorW.PrintMore
set_option linter.unusedVariables false
set_option linter.unusedSimpArgs false

structure Dk where
  st : Int
  ws : List Int
  ns : List Int
  dc : List Int
structure Fine (D : Dk) : Prop where
  s0 : 0 ≤ D.st
  s3 : D.st ≤ 3
  w9 : D.ws.length ≤ 9
  n9 : D.ns.length ≤ 9
  d0 : D.st ≠ 0 → D.dc ≠ []
  dm : D.dc.length ≤ 1000
def Dk.decide (D : Dk) (s : Int) : Dk := { st := s, ws := D.ns, ns := D.ns, dc := D.dc.set (D.dc.length - 1) s }
def Dk.drop (D : Dk) (node : Int) : Dk := { D with ws := drops node D.ws }
/-- say, where the node is waited for. -/
def Dk.say (D : Dk) (node : Int) : Dk := if drops node D.ws ≠ [] then D.drop node else if D.st = 1 then D.decide 2 else { st := 0, ws := [], ns := [], dc := D.dc }
def Dk.begin_ (D : Dk) (xs : List Int) : Dk := { st := 1, ws := xs, ns := xs, dc := D.dc ++ [0] }
def Dk.at_ (D : Dk) (i : Int) : Int := if 1 ≤ i ∧ i ≤ D.dc.length then rd D.dc ((i - 1).toNat : Nat) else 0
def Dk.new : Dk := { st := 0, ws := [], ns := [], dc := [] }
theorem Fine.new : Fine Dk.new := ⟨by simp [Dk.new], by simp [Dk.new], by simp [Dk.new], by simp [Dk.new], by simp [Dk.new], by simp [Dk.new]⟩
theorem Fine.decide {D : Dk} (h : Fine D) {s : Int} (h0 : 0 ≤ s) (h3 : s ≤ 3) (hd : D.dc ≠ []) : Fine (D.decide s) := ⟨h0, h3, h.n9, h.n9, fun _ e => hd (by simpa [Dk.decide] using e), by simpa [Dk.decide] using h.dm⟩
theorem Fine.say {D : Dk} (h : Fine D) (node : Int) : Fine (D.say node) := by
  have := h.s0
  have := h.s3
  unfold Dk.say
  split
  · exact ⟨h.s0, h.s3, Nat.le_trans (drops_len _ _) h.w9, h.n9, h.d0, h.dm⟩
  · split
    · exact h.decide (by omega) (by omega) (h.d0 (by omega))
    · exact ⟨by simp, by simp, by simp, by simp, by simp, h.dm⟩
theorem Fine.begin_ {D : Dk} (h : Fine D) {xs : List Int} (hx : xs.length ≤ 9) (hd : D.dc.length < 1000) : Fine (D.begin_ xs) := ⟨by simp [Dk.begin_], by simp [Dk.begin_], hx, hx, by simp [Dk.begin_], by simp [Dk.begin_]; omega⟩

structure DeskAt (w : World) (lo : Nat) (K : Nat → Prop) (D : Dk) (p : Nat) (Aw : Option Addr) (cw : Nat) (An : Option Addr) (cn : Nat) (Ad : Option Addr) (cd : Nat) : Prop where
  blk : w.heap[p]? = some (.cells #[.int .i64 D.st, .slice Aw D.ws.length cw, .slice An D.ns.length cn, .slice Ad D.dc.length cd] 55 (0, 0))
  rw : (Kd.int .i64).R 3 w lo (fun k => K k ∧ k ≠ p) (.slice Aw D.ws.length cw) D.ws
  rn : (Kd.int .i64).R 3 w lo (fun k => K k ∧ k ≠ p) (.slice An D.ns.length cn) D.ns
  rd : (Kd.int .i64).R 47 w lo (fun k => K k ∧ k ≠ p) (.slice Ad D.dc.length cd) D.dc
  wn : ∀ k, (Value.slice Aw D.ws.length cw).ownBlock = some k → (Value.slice An D.ns.length cn).ownBlock ≠ some k
  wd : ∀ k, (Value.slice Aw D.ws.length cw).ownBlock = some k → (Value.slice Ad D.dc.length cd).ownBlock ≠ some k
  nd : ∀ k, (Value.slice An D.ns.length cn).ownBlock = some k → (Value.slice Ad D.dc.length cd).ownBlock ≠ some k
  kp : K p
  kb : ∀ k, K k → lo ≤ k ∧ k < w.heap.size
def IsDesk (w : World) (lo : Nat) (K : Nat → Prop) (D : Dk) (p : Nat) : Prop := ∃ Aw cw An cn Ad cd, DeskAt w lo K D p Aw cw An cn Ad cd
/-- The blocks of before, and what is new. -/
def Kx (K : Nat → Prop) (w w1 : World) (k : Nat) : Prop := K k ∨ w.heap.size ≤ k ∧ k < w1.heap.size
structure Moved (w w' : World) (lo : Nat) (K K' : Nat → Prop) : Prop where
  below : Below lo w w'
  kept : Kept w w' K
  new : ∀ k, K' k → K k ∨ w.heap.size ≤ k
theorem Moved.trans {w w1 w2 : World} {lo : Nat} {K K1 K2 : Nat → Prop} (h : Moved w w1 lo K K1) (k : Moved w1 w2 lo K1 K2) : Moved w w2 lo K K2 :=
  ⟨h.below.trans k.below, h.kept.then_ k.kept h.new, fun i hi => (k.new i hi).elim (h.new i) (fun h2 => .inr (Nat.le_trans h.below.size h2))⟩
theorem Moved.refl (w : World) (lo : Nat) (K : Nat → Prop) : Moved w w lo K K := ⟨Below.refl _ _, Kept.refl _ _, fun _ h => .inl h⟩
theorem R_far_own {e base : Nat} {ok : Nat → Prop} {w w1 : World} {v : Value} {xs : List Int} {S : Nat → Prop} (h : (Kd.int .i64).R e w base ok v xs) (hk : Kept w w1 S) (hn : ∀ k, v.ownBlock = some k → ¬ S k) : (Kd.int .i64).R e w1 base ok v xs :=
  Kd.R_mono (Kd.R_step (Kd.R_tight2 (d := Kd.int .i64) rfl h) (fun k hk1 hlt => hk.2 k hlt (hn k hk1.1.symm))) (fun _ hk => hk.2)
section
variable {w w1 : World} {lo p cw cn cd : Nat} {K K' : Nat → Prop} {D : Dk} {Aw An Ad : Option Addr}
theorem DeskAt.move (z : DeskAt w lo K D p Aw cw An cn Ad cd) (hm : ∀ k, K k → w1.heap[k]? = w.heap[k]?) (hs : w.heap.size ≤ w1.heap.size) : DeskAt w1 lo K D p Aw cw An cn Ad cd :=
  ⟨(hm _ z.kp).trans z.blk, Kd.R_move z.rw fun k hk => hm k hk.1, Kd.R_move z.rn fun k hk => hm k hk.1, Kd.R_move z.rd fun k hk => hm k hk.1, z.wn, z.wd, z.nd, z.kp, fun k hk => ⟨(z.kb k hk).1, Nat.lt_of_lt_of_le (z.kb k hk).2 hs⟩⟩
theorem DeskAt.widen (z : DeskAt w lo K D p Aw cw An cn Ad cd) (hk : ∀ k, K k → K' k) (hb : ∀ k, K' k → lo ≤ k ∧ k < w.heap.size) : DeskAt w lo K' D p Aw cw An cn Ad cd :=
  ⟨z.blk, Kd.R_mono z.rw fun k h => ⟨hk k h.1, h.2⟩, Kd.R_mono z.rn fun k h => ⟨hk k h.1, h.2⟩, Kd.R_mono z.rd fun k h => ⟨hk k h.1, h.2⟩, z.wn, z.wd, z.nd, hk _ z.kp, hb⟩
theorem DeskAt.low (z : DeskAt w lo K D p Aw cw An cn Ad cd) : lo ≤ w.heap.size := by have := z.kb _ z.kp; omega
theorem DeskAt.below (z : DeskAt w lo K D p Aw cw An cn Ad cd) (hb : Below w.heap.size w w1) : DeskAt w1 lo (Kx K w w1) D p Aw cw An cn Ad cd :=
  (z.move (fun k hk => hb.block k (z.kb k hk).2) hb.size).widen (fun k hk => .inl hk) fun k hk => by
    have := hb.size
    have := z.low
    rcases hk with hk | hk
    · have := z.kb k hk; omega
    · omega
theorem Moved.of_below (hb : Below w.heap.size w w1) (hlo : lo ≤ w.heap.size) (K : Nat → Prop) : Moved w w1 lo K (Kx K w w1) :=
  ⟨hb.mono hlo, Kept.of_below hb _, fun k hk => hk.elim .inl (fun h => .inr h.1)⟩
theorem DeskAt.stay (z : DeskAt w lo K D p Aw cw An cn Ad cd) (hb : Below w.heap.size w w1) : DeskAt w1 lo K D p Aw cw An cn Ad cd :=
  z.move (fun k hk => hb.block k (z.kb k hk).2) hb.size
theorem IsDesk.stay (z : IsDesk w lo K D p) (hb : Below w.heap.size w w1) : IsDesk w1 lo K D p := by
  obtain ⟨_, _, _, _, _, _, z⟩ := z
  exact ⟨_, _, _, _, _, _, z.stay hb⟩
theorem IsDesk.move (z : IsDesk w lo K D p) (hm : ∀ k, K k → w1.heap[k]? = w.heap[k]?) (hs : w.heap.size ≤ w1.heap.size) : IsDesk w1 lo K D p := by
  obtain ⟨_, _, _, _, _, _, z⟩ := z
  exact ⟨_, _, _, _, _, _, z.move hm hs⟩
theorem IsDesk.kb (z : IsDesk w lo K D p) : ∀ k, K k → lo ≤ k ∧ k < w.heap.size := by
  obtain ⟨_, _, _, _, _, _, z⟩ := z
  exact z.kb
theorem set_size (W : World) (g i : Nat) (u : Value) : (W.setCell ⟨g, i, none⟩ u).heap.size = W.heap.size := by simp [World.setCell]
theorem moved_set (z : DeskAt w lo K D p Aw cw An cn Ad cd) {g : Nat} (hg : K g) (i : Nat) (u : Value) : Moved w (w.setCell ⟨g, i, none⟩ u) lo K K :=
  ⟨(Below.refl _ _).setCell (z.kb g hg).1 _, ⟨by rw [set_size]; exact Nat.le_refl _, fun k hk hn => Below.heap_setCell _ _ _ _ (fun e => hn (e ▸ hg))⟩, fun k hk => .inl hk⟩
theorem DeskAt.setSt (z : DeskAt w lo K D p Aw cw An cn Ad cd) (s : Int) : DeskAt (w.setCell ⟨p, 0, none⟩ (.int .i64 s)) lo K { D with st := s } p Aw cw An cn Ad cd :=
  ⟨blk_set z.blk 0 _, Kd.R_far z.rw (fun k hk => hk.2) _, Kd.R_far z.rn (fun k hk => hk.2) _, Kd.R_far z.rd (fun k hk => hk.2) _, z.wn, z.wd, z.nd, z.kp, fun k hk => by rw [set_size]; exact z.kb k hk⟩
theorem DeskAt.setWs (z : DeskAt w lo K D p Aw cw An cn Ad cd) {A1 : Option Addr} {c1 : Nat} {xs : List Int} (hv : (Kd.int .i64).R 3 w lo (fun k => K k ∧ k ≠ p) (.slice A1 xs.length c1) xs)
    (hn : ∀ k, (Value.slice A1 xs.length c1).ownBlock = some k → (Value.slice An D.ns.length cn).ownBlock ≠ some k) (hd : ∀ k, (Value.slice A1 xs.length c1).ownBlock = some k → (Value.slice Ad D.dc.length cd).ownBlock ≠ some k) :
    DeskAt (w.setCell ⟨p, 1, none⟩ (.slice A1 xs.length c1)) lo K { D with ws := xs } p A1 c1 An cn Ad cd :=
  ⟨blk_set z.blk 1 _, Kd.R_far hv (fun k hk => hk.2) _, Kd.R_far z.rn (fun k hk => hk.2) _, Kd.R_far z.rd (fun k hk => hk.2) _, hn, hd, z.nd, z.kp, fun k hk => by rw [set_size]; exact z.kb k hk⟩
theorem DeskAt.setNs (z : DeskAt w lo K D p Aw cw An cn Ad cd) {A1 : Option Addr} {c1 : Nat} {xs : List Int} (hv : (Kd.int .i64).R 3 w lo (fun k => K k ∧ k ≠ p) (.slice A1 xs.length c1) xs)
    (hn : ∀ k, (Value.slice Aw D.ws.length cw).ownBlock = some k → (Value.slice A1 xs.length c1).ownBlock ≠ some k) (hd : ∀ k, (Value.slice A1 xs.length c1).ownBlock = some k → (Value.slice Ad D.dc.length cd).ownBlock ≠ some k) :
    DeskAt (w.setCell ⟨p, 2, none⟩ (.slice A1 xs.length c1)) lo K { D with ns := xs } p Aw cw A1 c1 Ad cd :=
  ⟨blk_set z.blk 2 _, Kd.R_far z.rw (fun k hk => hk.2) _, Kd.R_far hv (fun k hk => hk.2) _, Kd.R_far z.rd (fun k hk => hk.2) _, hn, z.wd, hd, z.kp, fun k hk => by rw [set_size]; exact z.kb k hk⟩
theorem DeskAt.setDc (z : DeskAt w lo K D p Aw cw An cn Ad cd) {A1 : Option Addr} {c1 : Nat} {xs : List Int} (hv : (Kd.int .i64).R 47 w lo (fun k => K k ∧ k ≠ p) (.slice A1 xs.length c1) xs)
    (hn : ∀ k, (Value.slice Aw D.ws.length cw).ownBlock = some k → (Value.slice A1 xs.length c1).ownBlock ≠ some k) (hd : ∀ k, (Value.slice An D.ns.length cn).ownBlock = some k → (Value.slice A1 xs.length c1).ownBlock ≠ some k) :
    DeskAt (w.setCell ⟨p, 3, none⟩ (.slice A1 xs.length c1)) lo K { D with dc := xs } p Aw cw An cn A1 c1 :=
  ⟨blk_set z.blk 3 _, Kd.R_far z.rw (fun k hk => hk.2) _, Kd.R_far z.rn (fun k hk => hk.2) _, Kd.R_far hv (fun k hk => hk.2) _, z.wn, hn, hd, z.kp, fun k hk => by rw [set_size]; exact z.kb k hk⟩
/-- A row that was made behind a world lies apart from those of that world. -/
theorem apart_new {e e2 n1 n2 c1 c2 b b2 : Nat} {A1 A2 : Option Addr} {ok ok2 : Nat → Prop} {xs ys : List Int} (h : (Kd.int .i64).R e w b ok (.slice A1 n1 c1) xs) (h2 : (Kd.int .i64).R e2 w1 b2 ok2 (.slice A2 n2 c2) ys) (hb : w.heap.size ≤ b2) :
    ∀ k, (Value.slice A2 n2 c2).ownBlock = some k → (Value.slice A1 n1 c1).ownBlock ≠ some k := by
  intro k h3 h4
  have := Kd.R_base h2 k h3
  have := Kd.R_lt h k h4
  omega
theorem row_in {e b : Nat} {ok : Nat → Prop} {v : Value} {xs : List Int} (h : (Kd.int .i64).R e w1 w.heap.size ok v xs) (hlo : lo ≤ w.heap.size) (hp : p < w.heap.size) : (Kd.int .i64).R e w1 lo (fun k => Kx K w w1 k ∧ k ≠ p) v xs :=
  Kd.R_lower (Kd.R_mono (Kd.R_bound h) (fun k hk => ⟨.inr ⟨hk.2.1, hk.2.2.1⟩, by have := hk.2.1; omega⟩)) hlo
end
end Go.Proofs.YtmhfigkdeeldnaaDoor
