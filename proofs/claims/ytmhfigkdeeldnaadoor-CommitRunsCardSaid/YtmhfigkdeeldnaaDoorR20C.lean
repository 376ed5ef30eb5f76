/- The document's desk, told plainly: say, Ready, Done. Printed by wip/mk20c.py. -/
import Derived.Test.YtmhfigkdeeldnaaDoorR20B
namespace Go.Proofs.YtmhfigkdeeldnaaDoor
open Go.RowKit Go.Proofs.YtmhfigkdeeldnaaDoorW.PrintWords Go.Proofs.YtmhfigkdeeldnaaDoorW.PrintLast Go.Proofs.YtmhfigkdeeldnaaDoorW.PrintMore
set_option linter.unusedVariables false
set_option linter.unusedSimpArgs false
structure RD where
  st : Int
  ns : List Int
  said : List Int
  dc : List Int
structure MFine (M : RD) : Prop where
  n9 : M.ns.length ≤ 9
  s9 : M.said.length ≤ 9
  dm : M.dc.length ≤ 1000
  d0 : M.st ≠ 0 → M.dc ≠ []
def RD.decide (M : RD) (s : Int) : RD := { st := s, ns := M.ns, said := [], dc := M.dc.set (M.dc.length - 1) s }
def RD.sayM (M : RD) (node : Int) : Int × RD := if node ∉ M.ns then (12, M) else if node ∈ M.said then (9, M) else (0, { M with said := M.said ++ [node] })
def RD.full (r : Int × RD) : Bool := r.1 == 0 && r.2.said.length == r.2.ns.length
def RD.readyM (M : RD) (i node : Int) : Int × RD := if M.st = 1 ∧ i = M.dc.length then (if RD.full (M.sayM node) then (0, (M.sayM node).2.decide 2) else M.sayM node) else (21, M)
def RD.doneM (M : RD) (i node : Int) : Int × RD := if (M.st = 2 ∨ M.st = 3) ∧ i = M.dc.length then (if RD.full (M.sayM node) then (0, { st := 0, ns := [], said := [], dc := M.dc }) else M.sayM node) else (21, M)
abbrev eV (c : Int) : Value := .agg #[.bool (!(c == 0)), .slice none 0 0, .int .i64 c]
/-- A desk of the document as a value, its lists rows among a set of blocks. -/
structure RdAt (w : World) (base : Nat) (ok : Nat → Prop) (M : RD) (An : Option Addr) (cn : Nat) (As : Option Addr) (cs : Nat) (Ad : Option Addr) (cd : Nat) : Prop where
  rn : (Kd.int .i64).R 3 w base ok (.slice An M.ns.length cn) M.ns
  rs : (Kd.int .i64).R 3 w base ok (.slice As M.said.length cs) M.said
  rd : (Kd.int .i64).R 3 w base ok (.slice Ad M.dc.length cd) M.dc
def RdR (w : World) (base : Nat) (ok : Nat → Prop) (v : Value) (M : RD) : Prop :=
  ∃ An cn As cs Ad cd, v = .agg #[.int .i64 M.st, .slice An M.ns.length cn, .slice As M.said.length cs, .slice Ad M.dc.length cd] ∧ RdAt w base ok M An cn As cs Ad cd
theorem R_stays {e t base g i : Nat} {ok : Nat → Prop} {w : World} {v : Value} {xs : List Int} {cs : Array Value} {fz : Nat × Nat} (h : (Kd.int .i64).R e w base ok v xs) (hg : w.heap[g]? = some (.cells cs t fz)) (ht : t ≠ e) (u : Value) : (Kd.int .i64).R e (w.setCell ⟨g, i, none⟩ u) base ok v xs := by
  refine R_far1set h (fun hc => ?_) i u
  obtain ⟨_, _, _, q, hq, cells, hx⟩ := (Kd.R_bound h).1 g hc.symm
  rw [hg] at hx
  injection hx with hx
  injection hx with _ hx _
  have hq' : q = e := by simpa [Kd.int, Kd.scalar] using hq
  exact ht (hx.trans hq')
theorem new_row {base : Nat} {ok : Nat → Prop} {w w1 : World} {v : Value} {xs : List Int} (h : (Kd.int .i64).R 3 w1 w.heap.size (fun _ => True) v xs) (hok : ∀ k, w.heap.size ≤ k → ok k) (hb : base ≤ w.heap.size) : (Kd.int .i64).R 3 w1 base ok v xs :=
  Kd.R_lower (Kd.R_mono (Kd.R_bound h) (fun k hk => hok k hk.2.1)) hb
section
variable {w w1 : World} {base cn cs cd : Nat} {ok : Nat → Prop} {M : RD} {An As Ad : Option Addr} {v : Value}
theorem RdAt.below (h : RdAt w base ok M An cn As cs Ad cd) (hb : Below w.heap.size w w1) : RdAt w1 base ok M An cn As cs Ad cd := ⟨Kd.R_below h.rn hb, Kd.R_below h.rs hb, Kd.R_below h.rd hb⟩
theorem RdAt.set (h : RdAt w base ok M An cn As cs Ad cd) {g : Nat} {x : Array Value} {t : Nat} {fz : Nat × Nat} (hg : w.heap[g]? = some (.cells x t fz)) (ht : t ≠ 3) (i : Nat) (u : Value) : RdAt (w.setCell ⟨g, i, none⟩ u) base ok M An cn As cs Ad cd := ⟨R_stays h.rn hg ht u, R_stays h.rs hg ht u, R_stays h.rd hg ht u⟩
theorem RdAt.put4 (h : RdAt w base ok M An cn As cs Ad cd) {g : Nat} {a b c d : Value} {t : Nat} (hg : w.heap[g]? = some (.cells #[a, b, c, d] t (0, 0))) (ht : t ≠ 3) (a' b' c' d' : Value) :
    RdAt ((((w.setCell ⟨g, 0, none⟩ a').setCell ⟨g, 1, none⟩ b').setCell ⟨g, 2, none⟩ c').setCell ⟨g, 3, none⟩ d') base ok M An cn As cs Ad cd :=
  (((h.set hg ht 0 a').set (blk_set hg 0 a') ht 1 b').set (blk_set (blk_set hg 0 a') 1 b') ht 2 c').set (blk_set (blk_set (blk_set hg 0 a') 1 b') 2 c') ht 3 d'
theorem RdAt.put3 (h : RdAt w base ok M An cn As cs Ad cd) {g : Nat} {a b c : Value} {t : Nat} (hg : w.heap[g]? = some (.cells #[a, b, c] t (0, 0))) (ht : t ≠ 3) (a' b' c' : Value) :
    RdAt (((w.setCell ⟨g, 0, none⟩ a').setCell ⟨g, 1, none⟩ b').setCell ⟨g, 2, none⟩ c') base ok M An cn As cs Ad cd :=
  ((h.set hg ht 0 a').set (blk_set hg 0 a') ht 1 b').set (blk_set (blk_set hg 0 a') 1 b') ht 2 c'
theorem RdAt.value (h : RdAt w base ok M An cn As cs Ad cd) : RdR w base ok (.agg #[.int .i64 M.st, .slice An M.ns.length cn, .slice As M.said.length cs, .slice Ad M.dc.length cd]) M := ⟨_, _, _, _, _, _, rfl, h⟩
theorem RdR.below (h : RdR w base ok v M) (hb : Below w.heap.size w w1) : RdR w1 base ok v M := by
  obtain ⟨An, cn, As, cs, Ad, cd, e, h⟩ := h
  exact ⟨An, cn, As, cs, Ad, cd, e, h.below hb⟩
theorem sayM_dc (M : RD) (node : Int) : (M.sayM node).2.dc = M.dc ∧ (M.sayM node).2.ns = M.ns ∧ (M.sayM node).2.st = M.st := by
  unfold RD.sayM
  split
  · exact ⟨rfl, rfl, rfl⟩
  · split
    · exact ⟨rfl, rfl, rfl⟩
    · exact ⟨rfl, rfl, rfl⟩
set_option maxRecDepth 100000 in
theorem refSay_calls (h : RdAt w base ok M An cn As cs Ad cd) (hF : MFine M) (hok : ∀ k, w.heap.size ≤ k → ok k) (hb : base ≤ w.heap.size) (node : Int) :
    Calls Tryd.prog 35 #[.agg #[.int .i64 M.st, .slice An M.ns.length cn, .slice As M.said.length cs, .slice Ad M.dc.length cd], .int .i64 node] w fun e w' => ∃ An' cn' As' cs' Ad' cd', e = .returned (.tuple #[.agg #[.int .i64 (M.sayM node).2.st, .slice An' (M.sayM node).2.ns.length cn', .slice As' (M.sayM node).2.said.length cs', .slice Ad' (M.sayM node).2.dc.length cd'], eV (M.sayM node).1]) ∧
      RdAt w' base ok (M.sayM node).2 An' cn' As' cs' Ad' cd' ∧ Below w.heap.size w w' := by
  unfold RD.sayM
  by_cases h1 : node ∈ M.ns
  · rw [if_neg (by simpa using h1)]
    by_cases h2 : node ∈ M.said
    · rw [if_pos h2]
      refine (refSay_again w _ An As Ad cn cs _ cd M.ns M.said node (Kd.R_reads' h.rn).2.2 (Kd.R_reads' h.rs).2.2 (decide_eq_true h1) (decide_eq_true h2)).mono ?_
      rintro e w' ⟨rfl, hb'⟩
      exact ⟨An, cn, As, cs, Ad, cd, rfl, h.below hb', hb'⟩
    · rw [if_neg h2]
      refine (refSay_goes w _ An As Ad cn cs _ cd M.ns M.said node (Kd.R_reads' h.rn).2.2 (Kd.R_reads' h.rs).2.2 hF.s9 (decide_eq_true h1) (decide_eq_false h2)).mono ?_
      rintro e w' ⟨A1, k1, rfl, hr, hb'⟩
      exact ⟨An, cn, A1, k1, Ad, cd, rfl, ⟨Kd.R_below h.rn hb', new_row hr hok hb, Kd.R_below h.rd hb'⟩, hb'⟩
  · rw [if_pos h1]
    refine (refSay_none w _ An As Ad cn cs _ cd M.ns M.said node (Kd.R_reads' h.rn).2.2 (Kd.R_reads' h.rs).2.2 (decide_eq_false h1)).mono ?_
    rintro e w' ⟨rfl, hb'⟩
    exact ⟨An, cn, As, cs, Ad, cd, rfl, h.below hb', hb'⟩
set_option maxRecDepth 100000 in
theorem refDecideM_calls (h : RdAt w base ok M An cn As cs Ad cd) (hF : M.dc.length ≤ 1000) (hne : M.dc ≠ []) (hok : ∀ k, w.heap.size ≤ k → ok k) (hb : base ≤ w.heap.size) (s : Int) :
    Calls Tryd.prog 36 #[.agg #[.int .i64 M.st, .slice An M.ns.length cn, .slice As M.said.length cs, .slice Ad M.dc.length cd], .int .i64 s] w fun e w' => ∃ A1 k1, e = .returned (.agg #[.int .i64 s, .slice An M.ns.length cn, .slice none 0 0, .slice A1 M.dc.length k1]) ∧
      RdAt w' base ok (M.decide s) An cn none 0 A1 k1 ∧ Below w.heap.size w w' := by
  refine (refDecide_calls w _ s An As Ad _ cn _ cs cd M.dc hne hF (Kd.R_reads' h.rd).2.2).mono ?_
  rintro e w' ⟨A1, k1, rfl, hr, hb'⟩
  refine ⟨A1, k1, rfl, ⟨Kd.R_below h.rn hb', Kd.R_nil _ _ _ _ _, ?_⟩, hb'⟩
  have e1 : (M.decide s).dc.length = M.dc.length := by simp [RD.decide]
  rw [e1]
  exact new_row hr hok hb
end
/-- In the midst of Ready and Done: what say answered lies in two cells of its own. -/
structure MidR (w wx : World) (base : Nat) (ok : Nat → Prop) (a b c d : Value) (g : Nat) (M : RD) (An : Option Addr) (cn : Nat) (As : Option Addr) (cs : Nat) (Ad : Option Addr) (cd : Nat) (bad : Bool) (code : Int) : Prop where
  mid : MidE w wx a b c d
  out : wx.heap[g]? = some (.cells #[.int .i64 M.st, .slice An M.ns.length cn, .slice As M.said.length cs, .slice Ad M.dc.length cd] 28 (0, 0))
  err : wx.heap[g + 1]? = some (.cells #[.bool bad, .slice none 0 0, .int .i64 code] 38 (0, 0))
  rows : RdAt wx base ok M An cn As cs Ad cd
  far : w.heap.size + 3 ≤ g
set_option maxRecDepth 100000 in
set_option maxHeartbeats 1000000 in
theorem refReady_state (w : World) (st : Int) (An As Ad : Option Addr) (la cn lb cs ld cd : Nat) (i node : Int) (h : (st != 1) = true) :
    Calls Tryd.prog 21 #[.agg #[.int .i64 st, .slice An la cn, .slice As lb cs, .slice Ad ld cd], .int .i64 i, .int .i64 node] w fun e w' => e = .returned (.tuple #[.agg #[.int .i64 st, .slice An la cn, .slice As lb cs, .slice Ad ld cd], .agg #[.bool true, .slice none 0 0, .int .i64 21]]) ∧ Below w.heap.size w w' := by
  go_enter Tryd.func21, Tryd.ntmps21
  go_wp2
  go_region_with (go_at_call 9; refine (refN_calls _ 21).mono ?_; rintro e w1 ⟨rfl, rfl⟩)
  all_goals
    go_wp2
    (try simp only [Exit.inBlock, Exit.then])
    refine bodyPost_ret (v := .tuple #[.agg #[.int .i64 st, .slice An la cn, .slice As lb cs, .slice Ad ld cd], .agg #[.bool true, .slice none 0 0, .int .i64 21]]) (by simp [results, Tryd.results21, go_sem]) rfl ⟨rfl, ?_⟩
    repeat (first | exact Below.refl _ _ | refine Below.drew ?_ | refine below_set ?_ (by first | exact Nat.le_refl _ | exact Nat.le_succ _ | omega) | refine below_alloc ?_ _)
set_option maxRecDepth 100000 in
set_option maxHeartbeats 1000000 in
theorem refReady_other (w : World) (An As Ad : Option Addr) (la cn lb cs ld cd : Nat) (i node : Int) (h2 : (i != (ld : Int)) = true) :
    Calls Tryd.prog 21 #[.agg #[.int .i64 1, .slice An la cn, .slice As lb cs, .slice Ad ld cd], .int .i64 i, .int .i64 node] w fun e w' => e = .returned (.tuple #[.agg #[.int .i64 1, .slice An la cn, .slice As lb cs, .slice Ad ld cd], .agg #[.bool true, .slice none 0 0, .int .i64 21]]) ∧ Below w.heap.size w w' := by
  go_enter Tryd.func21, Tryd.ntmps21
  go_wp2_with (go_at_call 25; refine (refChange_calls _ _ _ _ _ _ _).mono ?_; rintro e w1 ⟨rfl, rfl⟩)
  go_region_with (go_at_call 9; refine (refN_calls _ 21).mono ?_; rintro e w1 ⟨rfl, rfl⟩)
  all_goals
    go_wp2
    (try simp only [Exit.inBlock, Exit.then])
    refine bodyPost_ret (v := .tuple #[.agg #[.int .i64 1, .slice An la cn, .slice As lb cs, .slice Ad ld cd], .agg #[.bool true, .slice none 0 0, .int .i64 21]]) (by simp [results, Tryd.results21, go_sem]) rfl ⟨rfl, ?_⟩
    repeat (first | exact Below.refl _ _ | refine Below.drew ?_ | refine below_set ?_ (by first | exact Nat.le_refl _ | exact Nat.le_succ _ | omega) | refine below_alloc ?_ _)
set_option maxRecDepth 100000 in
set_option maxHeartbeats 1000000 in
theorem refDone_state (w : World) (st : Int) (An As Ad : Option Addr) (la cn lb cs ld cd : Nat) (i node : Int) (h : (st != 2) = true) (h2 : (st != 3) = true) :
    Calls Tryd.prog 22 #[.agg #[.int .i64 st, .slice An la cn, .slice As lb cs, .slice Ad ld cd], .int .i64 i, .int .i64 node] w fun e w' => e = .returned (.tuple #[.agg #[.int .i64 st, .slice An la cn, .slice As lb cs, .slice Ad ld cd], .agg #[.bool true, .slice none 0 0, .int .i64 21]]) ∧ Below w.heap.size w w' := by
  go_enter Tryd.func22, Tryd.ntmps22
  go_wp2
  go_region_with (go_at_call 9; refine (refN_calls _ 21).mono ?_; rintro e w1 ⟨rfl, rfl⟩)
  all_goals
    go_wp2
    (try simp only [Exit.inBlock, Exit.then])
    refine bodyPost_ret (v := .tuple #[.agg #[.int .i64 st, .slice An la cn, .slice As lb cs, .slice Ad ld cd], .agg #[.bool true, .slice none 0 0, .int .i64 21]]) (by simp [results, Tryd.results22, go_sem]) rfl ⟨rfl, ?_⟩
    repeat (first | exact Below.refl _ _ | refine Below.drew ?_ | refine below_set ?_ (by first | exact Nat.le_refl _ | exact Nat.le_succ _ | omega) | refine below_alloc ?_ _)
set_option maxRecDepth 100000 in
set_option maxHeartbeats 1000000 in
theorem refDone_other2 (w : World) (An As Ad : Option Addr) (la cn lb cs ld cd : Nat) (i node : Int) (h2 : (i != (ld : Int)) = true) :
    Calls Tryd.prog 22 #[.agg #[.int .i64 2, .slice An la cn, .slice As lb cs, .slice Ad ld cd], .int .i64 i, .int .i64 node] w fun e w' => e = .returned (.tuple #[.agg #[.int .i64 2, .slice An la cn, .slice As lb cs, .slice Ad ld cd], .agg #[.bool true, .slice none 0 0, .int .i64 21]]) ∧ Below w.heap.size w w' := by
  go_enter Tryd.func22, Tryd.ntmps22
  go_wp2_with (go_at_call 25; refine (refChange_calls _ _ _ _ _ _ _).mono ?_; rintro e w1 ⟨rfl, rfl⟩)
  go_region_with (go_at_call 9; refine (refN_calls _ 21).mono ?_; rintro e w1 ⟨rfl, rfl⟩)
  all_goals
    go_wp2
    (try simp only [Exit.inBlock, Exit.then])
    refine bodyPost_ret (v := .tuple #[.agg #[.int .i64 2, .slice An la cn, .slice As lb cs, .slice Ad ld cd], .agg #[.bool true, .slice none 0 0, .int .i64 21]]) (by simp [results, Tryd.results22, go_sem]) rfl ⟨rfl, ?_⟩
    repeat (first | exact Below.refl _ _ | refine Below.drew ?_ | refine below_set ?_ (by first | exact Nat.le_refl _ | exact Nat.le_succ _ | omega) | refine below_alloc ?_ _)
set_option maxRecDepth 100000 in
set_option maxHeartbeats 1000000 in
theorem refDone_other3 (w : World) (An As Ad : Option Addr) (la cn lb cs ld cd : Nat) (i node : Int) (h2 : (i != (ld : Int)) = true) :
    Calls Tryd.prog 22 #[.agg #[.int .i64 3, .slice An la cn, .slice As lb cs, .slice Ad ld cd], .int .i64 i, .int .i64 node] w fun e w' => e = .returned (.tuple #[.agg #[.int .i64 3, .slice An la cn, .slice As lb cs, .slice Ad ld cd], .agg #[.bool true, .slice none 0 0, .int .i64 21]]) ∧ Below w.heap.size w w' := by
  go_enter Tryd.func22, Tryd.ntmps22
  go_wp2_with (go_at_call 25; refine (refChange_calls _ _ _ _ _ _ _).mono ?_; rintro e w1 ⟨rfl, rfl⟩)
  go_region_with (go_at_call 9; refine (refN_calls _ 21).mono ?_; rintro e w1 ⟨rfl, rfl⟩)
  all_goals
    go_wp2
    (try simp only [Exit.inBlock, Exit.then])
    refine bodyPost_ret (v := .tuple #[.agg #[.int .i64 3, .slice An la cn, .slice As lb cs, .slice Ad ld cd], .agg #[.bool true, .slice none 0 0, .int .i64 21]]) (by simp [results, Tryd.results22, go_sem]) rfl ⟨rfl, ?_⟩
    repeat (first | exact Below.refl _ _ | refine Below.drew ?_ | refine below_set ?_ (by first | exact Nat.le_refl _ | exact Nat.le_succ _ | omega) | refine below_alloc ?_ _)
set_option maxRecDepth 100000 in
set_option maxHeartbeats 1000000 in
theorem refCancel_state (w : World) (st : Int) (An As Ad : Option Addr) (la cn lb cs ld cd : Nat) (i : Int) (h : (st != 1) = true) :
    Calls Tryd.prog 23 #[.agg #[.int .i64 st, .slice An la cn, .slice As lb cs, .slice Ad ld cd], .int .i64 i] w fun e w' => e = .returned (.tuple #[.agg #[.int .i64 st, .slice An la cn, .slice As lb cs, .slice Ad ld cd], .agg #[.bool true, .slice none 0 0, .int .i64 21]]) ∧ Below w.heap.size w w' := by
  go_enter Tryd.func23, Tryd.ntmps23
  go_wp2
  go_region_with (go_at_call 9; refine (refN_calls _ 21).mono ?_; rintro e w1 ⟨rfl, rfl⟩)
  all_goals
    go_wp2
    (try simp only [Exit.inBlock, Exit.then])
    refine bodyPost_ret (v := .tuple #[.agg #[.int .i64 st, .slice An la cn, .slice As lb cs, .slice Ad ld cd], .agg #[.bool true, .slice none 0 0, .int .i64 21]]) (by simp [results, Tryd.results23, go_sem]) rfl ⟨rfl, ?_⟩
    repeat (first | exact Below.refl _ _ | refine Below.drew ?_ | refine below_set ?_ (by first | exact Nat.le_refl _ | exact Nat.le_succ _ | omega) | refine below_alloc ?_ _)
set_option maxRecDepth 100000 in
set_option maxHeartbeats 1000000 in
theorem refCancel_other (w : World) (An As Ad : Option Addr) (la cn lb cs ld cd : Nat) (i : Int) (h2 : (i != (ld : Int)) = true) :
    Calls Tryd.prog 23 #[.agg #[.int .i64 1, .slice An la cn, .slice As lb cs, .slice Ad ld cd], .int .i64 i] w fun e w' => e = .returned (.tuple #[.agg #[.int .i64 1, .slice An la cn, .slice As lb cs, .slice Ad ld cd], .agg #[.bool true, .slice none 0 0, .int .i64 21]]) ∧ Below w.heap.size w w' := by
  go_enter Tryd.func23, Tryd.ntmps23
  go_wp2_with (go_at_call 25; refine (refChange_calls _ _ _ _ _ _ _).mono ?_; rintro e w1 ⟨rfl, rfl⟩)
  go_region_with (go_at_call 9; refine (refN_calls _ 21).mono ?_; rintro e w1 ⟨rfl, rfl⟩)
  all_goals
    go_wp2
    (try simp only [Exit.inBlock, Exit.then])
    refine bodyPost_ret (v := .tuple #[.agg #[.int .i64 1, .slice An la cn, .slice As lb cs, .slice Ad ld cd], .agg #[.bool true, .slice none 0 0, .int .i64 21]]) (by simp [results, Tryd.results23, go_sem]) rfl ⟨rfl, ?_⟩
    repeat (first | exact Below.refl _ _ | refine Below.drew ?_ | refine below_set ?_ (by first | exact Nat.le_refl _ | exact Nat.le_succ _ | omega) | refine below_alloc ?_ _)
end Go.Proofs.YtmhfigkdeeldnaaDoor
