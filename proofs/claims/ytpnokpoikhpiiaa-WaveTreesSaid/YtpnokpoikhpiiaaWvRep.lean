/- How a wave lies in memory: a struct of a list, two sets of numbers and a truth; all its blocks lie in a range of blocks. -/
import Derived.Test.YtpnokpoikhpiiaaKeys
import Derived.Test.YtpnokpoikhpiiaaLc
import Derived.Test.YtpnokpoikhpiiaaWMore
import Derived.Test.YtpnokpoikhpiiaaWKept
import Derived.Test.YtpnokpoikhpiiaaWLast
namespace Go.Proofs.Ytpnokpoikhpiiaa
open Go.RowKit Go.Maps Go.Proofs.YtpnokpoikhpiiaaW.PrintWords Go.Proofs.YtpnokpoikhpiiaaW.PrintLast Go.Proofs.YtpnokpoikhpiiaaW.PrintMore
set_option linter.unusedVariables false
set_option linter.unusedSimpArgs false

def In (lo hi k : Nat) : Prop := lo ≤ k ∧ k < hi

structure Nd where
  near : List Int
  heard : List Int
  told : List Int
  bg : Bool

structure Fine (nd : Nd) : Prop where
  nn : nd.near.Nodup
  nb : ∀ x, x ∈ nd.near → 0 ≤ x ∧ x < 8
  hn : nd.heard.Nodup
  hs : ∀ x, x ∈ nd.heard → x ∈ nd.near
  tn : nd.told.Nodup
  ts : ∀ x, x ∈ nd.told → x ∈ nd.near

theorem length_small {l : List Int} (h : l.Nodup) (hb : ∀ x, x ∈ l → 0 ≤ x ∧ x < 8) : l.length ≤ 8 :=
  LC.length_le_of_subset (m := [0, 1, 2, 3, 4, 5, 6, 7]) h fun x hx => by
    have := hb x hx
    simp only [List.mem_cons, List.not_mem_nil, or_false]
    omega
theorem Fine.near8 {nd : Nd} (h : Fine nd) : nd.near.length ≤ 8 := length_small h.nn h.nb
theorem Fine.heard8 {nd : Nd} (h : Fine nd) : nd.heard.length ≤ 8 := length_small h.hn fun x hx => h.nb x (h.hs x hx)
theorem Fine.told8 {nd : Nd} (h : Fine nd) : nd.told.length ≤ 8 := length_small h.tn fun x hx => h.nb x (h.ts x hx)

def IsWave (w : World) (lo hi : Nat) (nd : Nd) (p : Nat) : Prop :=
  ∃ (A : Option Addr) (c bh bt : Nat), w.heap[p]? = some (.cells #[.slice A nd.near.length c, .map (some bh), .map (some bt), .bool nd.bg] 60 (0, 0)) ∧
    (Kd.int .i64).R 3 w lo (In lo hi) (.slice A nd.near.length c) nd.near ∧ Keys w bh nd.heard ∧ Keys w bt nd.told ∧ bh ≠ bt ∧ In lo hi p ∧ In lo hi bh ∧ In lo hi bt

theorem IsWave.move {w w1 : World} {lo hi : Nat} {nd : Nd} {p : Nat} (h : IsWave w lo hi nd p) (hm : ∀ k, In lo hi k → w1.heap[k]? = w.heap[k]?) : IsWave w1 lo hi nd p := by
  obtain ⟨A, c, bh, bt, h1, h2, h3, h4, h5, h6, h7, h8⟩ := h
  exact ⟨A, c, bh, bt, (hm _ h6).trans h1, Kd.R_move h2 hm, h3.move (hm _ h7), h4.move (hm _ h8), h5, h6, h7, h8⟩
/-- A list that lies behind a range stays while the range alone is written. -/
theorem R_kept {α : Type} {d : Kd α} {e : Nat} {w w1 : World} {base lo hi : Nat} {ok : Nat → Prop} {v : Value} {xs : List α} (h : d.R e w base ok v xs) (hk : Kept w w1 (In lo hi)) (hhi : hi ≤ base) : d.R e w1 base ok v xs :=
  Kd.R_mono (Kd.R_move (Kd.R_bound h) (fun k hk' => hk.2 k hk'.2.2.1 (fun hin => by have := hin.2; have := hk'.2.1; omega))) (fun _ hk => hk.1)
theorem IsWave.drewN {w : World} {lo hi : Nat} {nd : Nd} {p : Nat} (h : IsWave w lo hi nd p) (m : Nat) : IsWave (w.drewN m) lo hi nd p := h.move fun _ _ => rfl
theorem IsWave.below {w w1 : World} {lo hi : Nat} {nd : Nd} {p : Nat} (h : IsWave w lo hi nd p) (hb : Below w.heap.size w w1) : IsWave w1 lo hi nd p := by
  obtain ⟨A, c, bh, bt, h1, h2, h3, h4, h5, h6, h7, h8⟩ := h
  exact ⟨A, c, bh, bt, (hb.block _ (blk_lt h1)).trans h1, Kd.R_below h2 hb, h3.move (hb.block _ h3.lt), h4.move (hb.block _ h4.lt), h5, h6, h7, h8⟩
theorem IsWave.alloc {w : World} {lo hi : Nat} {nd : Nd} {p : Nat} (h : IsWave w lo hi nd p) (o : Obj) : IsWave (w.alloc o) lo hi nd p := h.below (below_alloc (Below.refl _ _) o)
end Go.Proofs.Ytpnokpoikhpiiaa
