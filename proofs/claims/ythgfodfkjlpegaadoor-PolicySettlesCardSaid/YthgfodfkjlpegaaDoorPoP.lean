/- pick: which load is to be moved, and whither. Printed by wip/mkpop.py. -/
import Derived.Test.YthgfodfkjlpegaaDoorPoM
namespace Go.Proofs.YthgfodfkjlpegaaDoor
open Go.RowKit Go.Proofs.YthgfodfkjlpegaaDoorW.PrintWords Go.Proofs.YthgfodfkjlpegaaDoorW.PrintLast Go.Proofs.YthgfodfkjlpegaaDoorW.PrintMore
attribute [local go_sem] max2_int min2_int max_two min_two
set_option linter.unusedVariables false
set_option linter.unusedSimpArgs false
def offI (d wt : Int) : Int := if d - 2 * wt < 2 * wt - d then 2 * wt - d else d - 2 * wt
/-- May this load be moved away from the node n, the difference being d? -/
def elig (n d : Int) (x : Ld) : Bool := decide (x.node = n) && decide (1 ≤ x.weight) && decide (x.weight < d)
/-- Does a load go ahead of another one? -/
def ahead (d : Int) (x y : Ld) : Bool := decide (offI d x.weight < offI d y.weight) || (decide (offI d x.weight = offI d y.weight) && decide (x.sub < y.sub))
def bestTo (n d : Int) (l : List Ld) : Nat → Int
  | 0 => -1
  | k + 1 => if elig n d (ldAt l k) && (decide (bestTo n d l k < 0) || ahead d (ldAt l k) (ldAt l (bestTo n d l k).toNat)) then (k : Int) else bestTo n d l k
theorem bestTo_bound (n d : Int) (l : List Ld) : ∀ k, -1 ≤ bestTo n d l k ∧ bestTo n d l k < k
  | 0 => by simp [bestTo]
  | k + 1 => by
    have := bestTo_bound n d l k
    simp only [bestTo]
    split <;> omega
theorem or_neg (d : Int) (x y : Ld) : decide ((if cmpI (offI d x.weight) (offI d y.weight) = 0 then cmpI x.sub y.sub else cmpI (offI d x.weight) (offI d y.weight)) < 0) = ahead d x y := by
  unfold ahead cmpI
  by_cases h1 : offI d x.weight < offI d y.weight
  · have : ¬ offI d x.weight = offI d y.weight := by omega
    simp [h1]
  · by_cases h2 : offI d y.weight < offI d x.weight
    · have : ¬ offI d x.weight = offI d y.weight := by omega
      simp [h1, h2, this]
    · have : offI d x.weight = offI d y.weight := by omega
      by_cases h3 : x.sub < y.sub
      · simp [this, h3]
      · by_cases h4 : y.sub < x.sub <;> simp [this, h3, h4]
theorem offI_bound {d wt : Int} (h0 : 0 ≤ d) (h1 : d ≤ 1000000000) (h2 : 0 ≤ wt) (h3 : wt ≤ 1000000) : -2000000000 ≤ offI d wt ∧ offI d wt ≤ 2000000000 := by unfold offI; split <;> omega
set_option maxRecDepth 100000 in
theorem off_calls (w : World) (bd bl : Nat) (d : Int) (B : Option Addr) (c : Nat) (l : List Ld) (i : Nat) (hd : w.cell? ⟨bd, 0, none⟩ = some (.int .i64 d)) (hb : w.cell? ⟨bl, 0, none⟩ = some (.slice B l.length c)) (hl : kLd.C w B l.length l) (hi : i < l.length) (h0 : 0 ≤ d) (h1 : d ≤ 1000000000) (h2 : 0 ≤ (ldAt l i).weight) (h3 : (ldAt l i).weight ≤ 1000000) :
    Calls Tryd.prog 33 #[.int .i64 i, .pointer (some ⟨bd, 0, none⟩), .pointer (some ⟨bl, 0, none⟩)] w fun e w' => e = .returned (.int .i64 (offI d (ldAt l i).weight)) ∧ Drawn0 w w' := by
  obtain ⟨ad, rfl, hc0, hc1, hc2⟩ := Ld_cell hl hi
  have hm : (l.length : Int) ≤ 9223372036854775807 := by have : l.length ≤ 9223372036854775807 := hl.2.1; omega
  have i0 : (0 : Int) ≤ i := by omega
  have i1 : (i : Int) < l.length := by omega
  generalize (ldAt l i).weight = wt at *
  unfold offI
  clear hl hi hc0 hc1
  by_cases hq : d - 2 * wt < 2 * wt - d
  · rw [if_pos hq]
    go_enter Tryd.func33, Tryd.ntmps33
    go_wp2
    go_quiet (fail)
    go_wp2
    go_ret
    exact ⟨rfl, ⟨⟨_, rfl⟩⟩⟩
  · rw [if_neg hq]
    go_enter Tryd.func33, Tryd.ntmps33
    go_wp2
    go_quiet (fail)
    go_wp2
    go_ret
    exact ⟨rfl, ⟨⟨_, rfl⟩⟩⟩
end Go.Proofs.YthgfodfkjlpegaaDoor
