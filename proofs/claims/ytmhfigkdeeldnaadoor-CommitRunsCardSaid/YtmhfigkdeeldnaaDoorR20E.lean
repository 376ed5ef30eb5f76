/- The document's desk: Cancel, Recover, Begin. Printed by wip/mk20e.py. -/
import Derived.Test.YtmhfigkdeeldnaaDoorR20D
import Derived.Test.YtmhfigkdeeldnaaDoorCmBegin
namespace Go.Proofs.YtmhfigkdeeldnaaDoor
open Go.RowKit Go.Proofs.YtmhfigkdeeldnaaDoorW.PrintWords Go.Proofs.YtmhfigkdeeldnaaDoorW.PrintLast Go.Proofs.YtmhfigkdeeldnaaDoorW.PrintMore
set_option linter.unusedVariables false
set_option linter.unusedSimpArgs false
theorem decide_len (M : RD) (s : Int) : (M.decide s).dc.length = M.dc.length := by simp [RD.decide]
set_option maxRecDepth 100000 in
set_option maxHeartbeats 1000000 in
theorem refCancel_goes {w : World} {base cn cs cd : Nat} {ok : Nat → Prop} {ns said dc : List Int} {An As Ad : Option Addr} (h : RdAt w base ok (⟨1, ns, said, dc⟩ : RD) An cn As cs Ad cd) (hF : MFine ⟨1, ns, said, dc⟩) (hok : ∀ k, w.heap.size ≤ k → ok k) (hb : base ≤ w.heap.size) :
    Calls Tryd.prog 23 #[.agg #[.int .i64 1, .slice An ns.length cn, .slice As said.length cs, .slice Ad dc.length cd], .int .i64 dc.length] w (PostR w base ok (0, RD.decide ⟨1, ns, said, dc⟩ 3)) := by
  have H := Lib.hid h
  have HF := Lib.hid hF
  have HOK := Lib.hid hok
  have HBS := Lib.hid hb
  have hbx : ((dc.length : Int) != (dc.length : Int)) = false := by simp
  have HMS := Aside0.mk ((MidE.start w (.int .i64 1) (.slice An ns.length cn) (.slice As said.length cs) (.slice Ad dc.length cd)).alloc (.cells #[.int .i64 1, .slice An ns.length cn, .slice As said.length cs, .slice Ad dc.length cd] 28))
  clear h hF hok hb
  go_enter Tryd.func23, Tryd.ntmps23
  go_upto_region 3 with (go_at_call 25; refine (refChange_calls _ _ _ _ _ _ _).mono ?_; rintro e w1 ⟨rfl, rfl⟩)
  obtain ⟨w0, hw0⟩ : ∃ w0, w0 = (midW w (.int .i64 1) (.slice An ns.length cn) (.slice As said.length cs) (.slice Ad dc.length cd)).alloc (.cells #[.int .i64 1, .slice An ns.length cn, .slice As said.length cs, .slice Ad dc.length cd] 28) := ⟨_, rfl⟩
  rw [← hw0] at HMS
  have hw1 : w0 = (((w.alloc (.cells #[.int .i64 1, .slice An ns.length cn, .slice As said.length cs, .slice Ad dc.length cd] 28)).alloc (.cells #[.int .i64 0, .slice none 0 0, .slice none 0 0, .slice none 0 0] 28)).alloc (.cells #[.bool false, .slice none 0 0, .int .i64 0] 38)).alloc (.cells #[.int .i64 1, .slice An ns.length cn, .slice As said.length cs, .slice Ad dc.length cd] 28) := hw0
  rw [← hw1]
  clear hw0 hw1
  obtain ⟨⟨d0, d1, d2, d3⟩, _⟩ := M_cells HMS.out.box
  go_wp2_with (go_at_call 36; refine (refDecideM_calls (H.out.below HMS.out.below) HF.out.dm (HF.out.d0 (by show (1 : Int) ≠ 0; decide)) (fun k hk => HOK.out k (Nat.le_trans HMS.out.below.size hk)) (Nat.le_trans HBS.out HMS.out.below.size) 3).mono ?_; rintro e w1 ⟨A1, k1, rfl, hr, hbb⟩; have HM1 := Aside0.mk (HMS.out.step hbb); have HR1 := Aside0.mk hr; obtain ⟨⟨g0, g1, g2, g3⟩, g4, g5, g6, g7⟩ := M_cells HM1.out.res; obtain ⟨⟨q0, q1, q2⟩, q3, q4, q5⟩ := E_cells (x := (0, 0)) (put_both HM1.out.res2 (show w.heap.size + 1 ≠ w.heap.size + 2 by omega) (.int .i64 3) (.slice An ns.length cn) (.slice none 0 0) (.slice A1 dc.length k1)); clear hr hbb)
  (try simp only [Exit.inBlock, Exit.then])
  obtain ⟨⟨y0, y1, y2, y3⟩, _⟩ := M_cells (put_back (M_put HM1.out.res (.int .i64 3) (.slice An ns.length cn) (.slice none 0 0) (.slice A1 dc.length k1)) (show w.heap.size + 1 ≠ w.heap.size + 2 by omega) (.bool false) (.slice none 0 0) (.int .i64 0))
  obtain ⟨⟨x0, x1, x2⟩, _⟩ := E_cells (x := (0, 0)) (E_put (put_both HM1.out.res2 (show w.heap.size + 1 ≠ w.heap.size + 2 by omega) (.int .i64 3) (.slice An ns.length cn) (.slice none 0 0) (.slice A1 dc.length k1)) (.bool false) (.slice none 0 0) (.int .i64 0))
  refine bodyPost_ret (v := .tuple #[.agg #[.int .i64 3, .slice An ns.length cn, .slice none 0 0, .slice A1 dc.length k1], .agg #[.bool false, .slice none 0 0, .int .i64 0]]) (by simp [results, Tryd.results23, go_sem, y0, y1, y2, y3, x0, x1, x2]) rfl ⟨An, cn, none, 0, A1, k1, ?_, ?_, ?_⟩
  · rw [decide_len]; rfl
  · have hr := HR1.out
    exact (hr.put4 HM1.out.res (by decide) _ _ _ _).put3 (put_both HM1.out.res2 (show w.heap.size + 1 ≠ w.heap.size + 2 by omega) _ _ _ _) (by decide) _ _ _
  · exact below_put3 (below_put4 HM1.out.below (by omega) _ _ _ _) (by omega) _ _ _
/-- What Recover answers. -/
def PostV (w : World) (base : Nat) (ok : Nat → Prop) (M : RD) (e : Ending) (w' : World) : Prop :=
  ∃ An cn As cs Ad cd, e = .returned (.agg #[.int .i64 M.st, .slice An M.ns.length cn, .slice As M.said.length cs, .slice Ad M.dc.length cd]) ∧ RdAt w' base ok M An cn As cs Ad cd ∧ Below w.heap.size w w'
def RD.recoverM (M : RD) : RD := if M.st = 1 then M.decide 3 else M
set_option maxRecDepth 100000 in
set_option maxHeartbeats 1000000 in
theorem refRecover_none (w : World) (st : Int) (An As Ad : Option Addr) (la cn lb cs ld cd : Nat) (h : (st != 1) = true) :
    Calls Tryd.prog 24 #[.agg #[.int .i64 st, .slice An la cn, .slice As lb cs, .slice Ad ld cd]] w fun e w' => e = .returned (.agg #[.int .i64 st, .slice An la cn, .slice As lb cs, .slice Ad ld cd]) ∧ Below w.heap.size w w' := by
  go_enter Tryd.func24, Tryd.ntmps24
  go_wp2
  (try simp only [Exit.inBlock, Exit.then])
  refine bodyPost_ret (v := .agg #[.int .i64 st, .slice An la cn, .slice As lb cs, .slice Ad ld cd]) (by simp [results, Tryd.results24, go_sem]) rfl ⟨rfl, ?_⟩
  repeat (first | exact Below.refl _ _ | refine Below.drew ?_ | refine below_set ?_ (by first | exact Nat.le_refl _ | exact Nat.le_succ _ | omega) | refine below_alloc ?_ _)
set_option maxRecDepth 100000 in
set_option maxHeartbeats 1000000 in
theorem refRecover_goes {w : World} {base cn cs cd : Nat} {ok : Nat → Prop} {ns said dc : List Int} {An As Ad : Option Addr} (h : RdAt w base ok (⟨1, ns, said, dc⟩ : RD) An cn As cs Ad cd) (hF : MFine ⟨1, ns, said, dc⟩) (hok : ∀ k, w.heap.size ≤ k → ok k) (hb : base ≤ w.heap.size) :
    Calls Tryd.prog 24 #[.agg #[.int .i64 1, .slice An ns.length cn, .slice As said.length cs, .slice Ad dc.length cd]] w (PostV w base ok (RD.decide ⟨1, ns, said, dc⟩ 3)) := by
  have H := Lib.hid h
  have HF := Lib.hid hF
  have HOK := Lib.hid hok
  have HBS := Lib.hid hb
  have HMS := Aside0.mk (MidD.start w (.int .i64 1) (.slice An ns.length cn) (.slice As said.length cs) (.slice Ad dc.length cd))
  clear h hF hok hb
  go_enter Tryd.func24, Tryd.ntmps24
  go_upto_region 3 with (fail)
  obtain ⟨w0, hw0⟩ : ∃ w0, w0 = (w.alloc (.cells #[.int .i64 1, .slice An ns.length cn, .slice As said.length cs, .slice Ad dc.length cd] 28)).alloc (.cells #[.int .i64 0, .slice none 0 0, .slice none 0 0, .slice none 0 0] 28) := ⟨_, rfl⟩
  rw [← hw0] at HMS ⊢
  clear hw0
  obtain ⟨⟨d0, d1, d2, d3⟩, _⟩ := M_cells HMS.out.box
  go_wp2_with (go_at_call 36; refine (refDecideM_calls (H.out.below HMS.out.below) HF.out.dm (HF.out.d0 (by show (1 : Int) ≠ 0; decide)) (fun k hk => HOK.out k (Nat.le_trans HMS.out.below.size hk)) (Nat.le_trans HBS.out HMS.out.below.size) 3).mono ?_; rintro e w1 ⟨A1, k1, rfl, hr, hbb⟩; have HM1 := Aside0.mk (HMS.out.step hbb); have HR1 := Aside0.mk hr; obtain ⟨⟨g0, g1, g2, g3⟩, g4, g5, g6, g7⟩ := M_cells HM1.out.res; clear hr hbb)
  (try simp only [Exit.inBlock, Exit.then])
  obtain ⟨⟨y0, y1, y2, y3⟩, _⟩ := M_cells (M_put HM1.out.res (.int .i64 3) (.slice An ns.length cn) (.slice none 0 0) (.slice A1 dc.length k1))
  refine bodyPost_ret (v := .agg #[.int .i64 3, .slice An ns.length cn, .slice none 0 0, .slice A1 dc.length k1]) (by simp [results, Tryd.results24, go_sem, y0, y1, y2, y3]) rfl ⟨An, cn, none, 0, A1, k1, ?_, ?_, ?_⟩
  · rw [decide_len]; rfl
  · have hr := HR1.out
    exact hr.put4 HM1.out.res (by decide) _ _ _ _
  · exact below_put4 HM1.out.below (by omega) _ _ _ _
set_option maxRecDepth 100000 in
set_option maxHeartbeats 1000000 in
theorem refBegin_busy (w : World) (st : Int) (An As Ad A : Option Addr) (la cn lb cs ld cd n c : Nat) (h : (st != 0) = true) :
    Calls Tryd.prog 20 #[.agg #[.int .i64 st, .slice An la cn, .slice As lb cs, .slice Ad ld cd], .slice A n c] w fun e w' => e = .returned (.tuple #[.agg #[.int .i64 st, .slice An la cn, .slice As lb cs, .slice Ad ld cd], .int .i64 0, .agg #[.bool true, .slice none 0 0, .int .i64 21]]) ∧ Below w.heap.size w w' := by
  go_enter Tryd.func20, Tryd.ntmps20
  go_wp2
  go_region_with (go_at_call 9; refine (refN_calls _ 21).mono ?_; rintro e w1 ⟨rfl, rfl⟩)
  all_goals
    go_wp2
    (try simp only [Exit.inBlock, Exit.then])
    refine bodyPost_ret (v := .tuple #[.agg #[.int .i64 st, .slice An la cn, .slice As lb cs, .slice Ad ld cd], .int .i64 0, .agg #[.bool true, .slice none 0 0, .int .i64 21]]) (by simp [results, Tryd.results20, go_sem]) rfl ⟨rfl, ?_⟩
    repeat (first | exact Below.refl _ _ | refine Below.drew ?_ | refine below_set ?_ (by first | exact Nat.le_refl _ | exact Nat.le_succ _ | omega) | refine below_alloc ?_ _)

set_option maxRecDepth 100000 in
set_option maxHeartbeats 2000000 in
theorem refBegin_arg (w : World) (An As Ad A : Option Addr) (la cn lb cs ld cd c : Nat) (xs : List Int) (hr : (Kd.int .i64).C w A xs.length xs) (hl : xs.length ≤ 50) (hx : xs = [] ∨ ¬ Up xs) :
    Calls Tryd.prog 20 #[.agg #[.int .i64 0, .slice An la cn, .slice As lb cs, .slice Ad ld cd], .slice A xs.length c] w fun e w' => e = .returned (.tuple #[.agg #[.int .i64 0, .slice An la cn, .slice As lb cs, .slice Ad ld cd], .int .i64 0, .agg #[.bool true, .slice none 0 0, .int .i64 1]]) ∧ Below w.heap.size w w' := by
  have HR := Lib.hid hr
  have HX := Lib.hid hx
  have hm : (xs.length : Int) ≤ 50 := by omega
  clear hr hx hl
  go_enter Tryd.func20, Tryd.ntmps20
  go_wp2
  go_loop [18] (fun v => ∃ k : Nat, k ≤ xs.length ∧ v = .int .i64 k ∧ Hid (∀ j, j < k → okB xs j)) (fun v => xs.length - (intOf v).toNat)
  case atStart => exact ⟨0, Nat.zero_le _, rfl, fun j hj => by omega⟩
  case round =>
    obtain ⟨k, hk, rfl, hok⟩ := hrel
    by_cases hlt : k < xs.length
    · obtain ⟨ad, rfl, hcell⟩ := C_cell (Kd.C_alloc (Kd.C_alloc (Kd.C_alloc HR.out (.cells #[.int .i64 0, .slice An la cn, .slice As lb cs, .slice Ad ld cd] 28)) (.cells #[.int .i64 0, .slice none 0 0, .slice none 0 0, .slice none 0 0] 28)) (.cells #[.bool false, .slice none 0 0, .int .i64 0] 38)) hlt
      have HLT := Lib.hid hlt
      have k0 : (0 : Int) ≤ k := by omega
      have k1 : (k : Int) < xs.length := by omega
      obtain ⟨n, hn⟩ : ∃ n, n = rd xs k := ⟨_, rfl⟩
      rw [← hn] at hcell
      have HN := Lib.hid hn
      clear hlt hn
      by_cases h0 : n < -1
      · go_wp2
        go_region_with (go_at_call 9; refine (refN_calls _ 1).mono ?_; rintro e w1 ⟨rfl, rfl⟩)
        all_goals
          go_wp2
          (try simp only [Exit.inBlock, Exit.then])
          refine bodyPost_ret (v := .tuple #[.agg #[.int .i64 0, .slice An la cn, .slice As lb cs, .slice Ad ld cd], .int .i64 0, .agg #[.bool true, .slice none 0 0, .int .i64 1]]) (by simp [results, Tryd.results20, go_sem]) rfl ⟨rfl, ?_⟩
          repeat (first | exact Below.refl _ _ | refine Below.drew ?_ | refine below_set ?_ (by first | exact Nat.le_refl _ | exact Nat.le_succ _ | omega) | refine below_alloc ?_ _)

      · by_cases h8 : 8 ≤ n
        · go_wp2
          go_region_with (go_at_call 9; refine (refN_calls _ 1).mono ?_; rintro e w1 ⟨rfl, rfl⟩)
          all_goals
            go_wp2
            (try simp only [Exit.inBlock, Exit.then])
            refine bodyPost_ret (v := .tuple #[.agg #[.int .i64 0, .slice An la cn, .slice As lb cs, .slice Ad ld cd], .int .i64 0, .agg #[.bool true, .slice none 0 0, .int .i64 1]]) (by simp [results, Tryd.results20, go_sem]) rfl ⟨rfl, ?_⟩
            repeat (first | exact Below.refl _ _ | refine Below.drew ?_ | refine below_set ?_ (by first | exact Nat.le_refl _ | exact Nat.le_succ _ | omega) | refine below_alloc ?_ _)

        · by_cases hk0 : k = 0
          · have HF := Lib.hid (show okB xs k by unfold okB; rw [← HN.out]; omega)
            have kz : (k : Int) ≤ 0 := by omega
            clear hk0
            go_wp2
            go_round
            case rel =>
              refine ⟨k + 1, by have := HLT.out; omega, by go_num, ?_⟩
              intro j hj
              obtain rfl : j = k := by omega
              exact HF.out
            case measure => simp [intOf]; omega
          · have hlt2 : k - 1 < xs.length := by have := HLT.out; omega
            obtain ⟨_, e, hcell2⟩ := C_cell (Kd.C_alloc (Kd.C_alloc (Kd.C_alloc HR.out (.cells #[.int .i64 0, .slice An la cn, .slice As lb cs, .slice Ad ld cd] 28)) (.cells #[.int .i64 0, .slice none 0 0, .slice none 0 0, .slice none 0 0] 28)) (.cells #[.bool false, .slice none 0 0, .int .i64 0] 38)) hlt2
            cases e
            have kp : (0 : Int) < k := by omega
            obtain ⟨m, hm2⟩ : ∃ m, m = rd xs (k - 1 : Nat) := ⟨_, rfl⟩
            rw [← hm2] at hcell2
            have HM := Lib.hid hm2
            have hK : ((k : Int) - 1).toNat = k - 1 := by omega
            have HK0 := Lib.hid hk0
            clear hm2 hlt2 hk0
            by_cases hp : n ≤ m
            · go_wp2
              go_region_with (go_at_call 9; refine (refN_calls _ 1).mono ?_; rintro e w1 ⟨rfl, rfl⟩)
              all_goals
                go_wp2
                (try simp only [Exit.inBlock, Exit.then])
                refine bodyPost_ret (v := .tuple #[.agg #[.int .i64 0, .slice An la cn, .slice As lb cs, .slice Ad ld cd], .int .i64 0, .agg #[.bool true, .slice none 0 0, .int .i64 1]]) (by simp [results, Tryd.results20, go_sem]) rfl ⟨rfl, ?_⟩
                repeat (first | exact Below.refl _ _ | refine Below.drew ?_ | refine below_set ?_ (by first | exact Nat.le_refl _ | exact Nat.le_succ _ | omega) | refine below_alloc ?_ _)

            · have HF := Lib.hid (show okB xs k by unfold okB; rw [← HN.out, ← HM.out]; omega)
              go_wp2
              go_round
              case rel =>
                refine ⟨k + 1, by have := HLT.out; omega, by go_num, ?_⟩
                intro j hj
                by_cases e : j = k
                · subst e; exact HF.out
                · exact hok.out j (by omega)
              case measure => simp [intOf]; omega
    · have k1 : ¬ (k : Int) < xs.length := by omega
      have hxe : xs = [] := by
        rcases HX.out with h | h
        · exact h
        · exact absurd (fun j hj => hok.out j (by omega)) h
      have hz : xs.length = 0 := by rw [hxe]; rfl
      obtain rfl : k = 0 := by omega
      have hz2 : ((xs.length : Int) == 0) = true := by rw [hz]; rfl
      clear hlt hok hxe
      go_wp2
      go_region_with (go_at_call 9; refine (refN_calls _ 1).mono ?_; rintro e w1 ⟨rfl, rfl⟩)
      all_goals
        go_wp2
        (try simp only [Exit.inBlock, Exit.then])
        refine bodyPost_ret (v := .tuple #[.agg #[.int .i64 0, .slice An la cn, .slice As lb cs, .slice Ad ld cd], .int .i64 0, .agg #[.bool true, .slice none 0 0, .int .i64 1]]) (by simp [results, Tryd.results20, go_sem]) rfl ⟨rfl, ?_⟩
        repeat (first | exact Below.refl _ _ | refine Below.drew ?_ | refine below_set ?_ (by first | exact Nat.le_refl _ | exact Nat.le_succ _ | omega) | refine below_alloc ?_ _)

set_option maxRecDepth 100000 in
set_option maxHeartbeats 4000000 in
theorem refBegin_goes (w : World) (An As Ad A : Option Addr) (la cn lb cs cd c : Nat) (xs dc : List Int) (hr : (Kd.int .i64).C w A xs.length xs) (hd : (Kd.int .i64).C w Ad dc.length dc) (hl : xs.length ≤ 50) (hdl : dc.length ≤ 1000) (hx : xs ≠ []) (hu : Up xs) :
    Calls Tryd.prog 20 #[.agg #[.int .i64 0, .slice An la cn, .slice As lb cs, .slice Ad dc.length cd], .slice A xs.length c] w fun e w' => ∃ A2 k2 A3 k3, e = .returned (.tuple #[.agg #[.int .i64 1, .slice A2 xs.length k2, .slice none 0 0, .slice A3 (dc ++ [0]).length k3], .int .i64 ((dc.length : Int) + 1), .agg #[.bool false, .slice none 0 0, .int .i64 0]]) ∧
      (Kd.int .i64).R 3 w' w.heap.size (fun _ => True) (.slice A2 xs.length k2) xs ∧ (Kd.int .i64).R 3 w' w.heap.size (fun _ => True) (.slice A3 (dc ++ [0]).length k3) (dc ++ [0]) ∧ Below w.heap.size w w' := by
  have HR := Lib.hid hr
  have HDC := Lib.hid hd
  have HX := Lib.hid hx
  have HU := Lib.hid hu
  have HDL := Lib.hid hdl
  have HXL := Lib.hid hl
  obtain ⟨L, hL⟩ : ∃ L, L = dc ++ [0] := ⟨_, rfl⟩
  rw [← hL]
  have HLL := Lib.hid hL
  have hm : (xs.length : Int) ≤ 50 := by omega
  have hz : ((xs.length : Int) == 0) = false := by have := List.length_pos_iff.2 hx; rw [beq_eq_false_iff_ne]; omega
  have HMS := Aside0.mk (MidE.start w (.int .i64 0) (.slice An la cn) (.slice As lb cs) (.slice Ad dc.length cd))
  clear hr hd hx hu hl hdl hL
  go_enter Tryd.func20, Tryd.ntmps20
  go_wp2
  go_loop [18] (fun v => ∃ k : Nat, k ≤ xs.length ∧ v = .int .i64 k) (fun v => xs.length - (intOf v).toNat)
  case atStart => exact ⟨0, Nat.zero_le _, rfl⟩
  case round =>
    obtain ⟨k, hk, rfl⟩ := hrel
    by_cases hlt : k < xs.length
    · obtain ⟨ad, rfl, hcell⟩ := C_cell (Kd.C_alloc (Kd.C_alloc (Kd.C_alloc HR.out (.cells #[.int .i64 0, .slice An la cn, .slice As lb cs, .slice Ad dc.length cd] 28)) (.cells #[.int .i64 0, .slice none 0 0, .slice none 0 0, .slice none 0 0] 28)) (.cells #[.bool false, .slice none 0 0, .int .i64 0] 38)) hlt
      have HLT := Lib.hid hlt
      have k0 : (0 : Int) ≤ k := by omega
      have k1 : (k : Int) < xs.length := by omega
      obtain ⟨n, hn⟩ : ∃ n, n = rd xs k := ⟨_, rfl⟩
      rw [← hn] at hcell
      have hok := HU.out k hlt
      unfold okB at hok
      rw [← hn] at hok
      obtain ⟨h0, h8, hp⟩ := hok
      have h0' : ¬ n < -1 := by omega
      have h8' : ¬ 8 ≤ n := by omega
      clear hlt hn
      by_cases hk0 : k = 0
      · have kz : (k : Int) ≤ 0 := by omega
        clear hk0 hp
        go_wp2
        go_round
        case rel => exact ⟨k + 1, by have := HLT.out; omega, by go_num⟩
        case measure => simp [intOf]; omega
      · have hlt2 : k - 1 < xs.length := by have := HLT.out; omega
        obtain ⟨_, e, hcell2⟩ := C_cell (Kd.C_alloc (Kd.C_alloc (Kd.C_alloc HR.out (.cells #[.int .i64 0, .slice An la cn, .slice As lb cs, .slice Ad dc.length cd] 28)) (.cells #[.int .i64 0, .slice none 0 0, .slice none 0 0, .slice none 0 0] 28)) (.cells #[.bool false, .slice none 0 0, .int .i64 0] 38)) hlt2
        cases e
        have kp : (0 : Int) < k := by omega
        obtain ⟨m, hm2⟩ : ∃ m, m = rd xs (k - 1 : Nat) := ⟨_, rfl⟩
        rw [← hm2] at hcell2 hp
        have hpn : ¬ n ≤ m := by have := hp (by omega); omega
        have hK : ((k : Int) - 1).toNat = k - 1 := by omega
        have HK0 := Lib.hid hk0
        clear hm2 hlt2 hk0 hp
        go_wp2
        go_round
        case rel => exact ⟨k + 1, by have := HLT.out; omega, by go_num⟩
        case measure => simp [intOf]; omega
    · have k1 : ¬ (k : Int) < xs.length := by omega
      clear hlt
      go_upto_region 11 with (fail)
      obtain ⟨w0, hw0⟩ : ∃ w0, w0 = midW w (.int .i64 0) (.slice An la cn) (.slice As lb cs) (.slice Ad dc.length cd) := ⟨_, rfl⟩
      rw [← hw0] at HMS
      have hw1 : w0 = ((w.alloc (.cells #[.int .i64 0, .slice An la cn, .slice As lb cs, .slice Ad dc.length cd] 28)).alloc (.cells #[.int .i64 0, .slice none 0 0, .slice none 0 0, .slice none 0 0] 28)).alloc (.cells #[.bool false, .slice none 0 0, .int .i64 0] 38) := hw0
      rw [← hw1]
      clear hw0 hw1
      obtain ⟨⟨d0, d1, d2, d3⟩, _⟩ := M_cells (HMS.out.alloc (.cells #[] 3)).box
      go_cut [9] (fun s9 wx => ∃ A1 k1, s9 = .slice A1 dc.length k1 ∧ Aside0 ((Kd.int .i64).R 3 wx (w.heap.size + 3) (fun _ => True) (.slice A1 dc.length k1) dc) ∧ Aside0 (MidE w wx (.int .i64 0) (.slice An la cn) (.slice As lb cs) (.slice Ad dc.length cd)))
      case first =>
        go_wp2_with (at_builtin; (refine app_rows w0.heap.size rfl _ _ rfl (.slice (some ⟨w0.heap.size, 0, none⟩) 0 0) [] dc Ad dc.length cd rfl rfl (empty_row w0 _ _ (Nat.le_refl _) trivial _) (Kd.C_alloc (Kd.C_below HDC.out HMS.out.below) _) (by simp) (by have := HDL.out; simp; omega) ?_; intro v1 w1 hr1 hb1; have HM1 := Aside0.mk ((HMS.out.alloc (.cells #[] 3)).grow (hb1.mono HMS.out.size)); obtain ⟨A1, kk1, rfl⟩ := Kd.R_slice (show (Kd.int .i64).R 3 w1 w0.heap.size (fun _ => True) v1 dc by simpa using hr1); have HR1 := Aside0.mk (Kd.R_lower (base' := w.heap.size + 3) (show (Kd.int .i64).R 3 w1 w0.heap.size (fun _ => True) (.slice A1 dc.length kk1) dc by simpa using hr1) HMS.out.size); clear hr1 hb1))
        go_meet
        case rel => exact ⟨A1, kk1, rfl, HR1, HM1⟩
      case rest =>
        obtain ⟨A1, k1', rfl, HR1, HM1⟩ := hcut
        clear HMS d0 d1 d2 d3
        obtain ⟨wx, rfl⟩ : ∃ wx, wx = wc := ⟨_, rfl⟩
        go_upto_region 12 with (fail)
        go_cut [10] (fun s10 wy => ∃ g A2 k2 A3 k3, s10 = .pointer (some ⟨g, 0, none⟩) ∧ Aside0 (wy.heap[g]? = some (.cells #[.int .i64 1, .slice A2 xs.length k2, .slice none 0 0, .slice A3 L.length k3] 28 (0, 0))) ∧ Aside0 ((Kd.int .i64).R 3 wy (w.heap.size + 3) (fun _ => True) (.slice A2 xs.length k2) xs) ∧ Aside0 ((Kd.int .i64).R 3 wy (w.heap.size + 3) (fun _ => True) (.slice A3 L.length k3) L) ∧ Aside0 (MidE w wy (.int .i64 0) (.slice An la cn) (.slice As lb cs) (.slice Ad dc.length cd)) ∧ Hid (w.heap.size + 3 ≤ g))
        case first =>
          go_wp2_with (first
            | (at_builtin; (refine Kd.R_append_rows (Kd.int .i64) (w0 := w2.alloc (.cells #[.int .i64 0] 3)) (w.heap.size + 3) rfl _ _ _ 3 (.int .i64 0) 8 rfl Tryd.underlying26 info3 rfl (by decide) (by omega) (.slice A1 dc.length k1') dc [0] _ 1 1 (fun _ => True) (fun _ => False) rfl rfl (Kd.R_alloc HR1b.out _) (lit_at _ _ [0] (by simp) (by simp) rfl rfl) (fun _ _ h => h) (fun _ hk => hk.elim) (fun _ _ => trivial) (Below.refl _ _) (Nat.le_trans HM2.out.size (by simp)) (by have := HDL.out; omega) ?_; intro v3 w3 hr3 hb3 hg3 hat3; rw [← HLL.out] at hr3; obtain ⟨A3, k3, rfl⟩ := Kd.R_slice hr3; have HR3 := Aside0.mk hr3; have HM3 := Aside0.mk ((HM2.out.alloc (.cells #[.int .i64 0] 3)).grow hb3); have HR4 := Aside0.mk (Kd.R_lower (base' := w.heap.size + 3) (Kd.R_grown2 (Kd.R_alloc HR2.out (.cells #[.int .i64 0] 3)) rfl hg3 (fun k hk e => by have h1 := Kd.R_base HR2.out k e.symm; have h2 := Kd.R_lt HR1.out k hk; omega)) HM1.out.size); clear hr3 hb3 hg3 hat3))
            | (at_builtin; (refine app_rows wx.heap.size rfl _ _ rfl (.slice (some ⟨wx.heap.size, 0, none⟩) 0 0) [] xs A xs.length c rfl rfl (empty_row wx _ _ (Nat.le_refl _) trivial _) (Kd.C_alloc (Kd.C_below HR.out HM1.out.below) _) (by simp) (by have := HXL.out; simp; omega) ?_; intro v2 w2 hr2 hb2; have HM2 := Aside0.mk ((HM1.out.alloc (.cells #[] 3)).grow (hb2.mono HM1.out.size)); obtain ⟨A2, k2, rfl⟩ := Kd.R_slice (show (Kd.int .i64).R 3 w2 wx.heap.size (fun _ => True) v2 xs by simpa using hr2); have HR2 := Aside0.mk (show (Kd.int .i64).R 3 w2 wx.heap.size (fun _ => True) (.slice A2 xs.length k2) xs by simpa using hr2); have HR1b := Aside0.mk (Kd.R_below HR1.out ((below_alloc (Below.refl _ wx) (.cells #[] 3)).trans hb2)); clear hr2 hb2)))
          go_meet
          case rel => exact ⟨w3.heap.size, A2, k2, A3, k3, rfl, ⟨heap_alloc_new _ _⟩, ⟨Kd.R_alloc HR4.out _⟩, ⟨Kd.R_alloc HR3.out _⟩, ⟨HM3.out.alloc _⟩, HM3.out.size⟩
        case rest =>
          obtain ⟨g, A2, k2, A3, k3, rfl, HG3, HR3, HR4, HM3, HF3⟩ := hcut
          clear HR1 HM1
          go_wp2
          refine wp_region_noPanic ?_
          refine wp_region_held_drew (S := fun W => W.heap[g]? = some (.cells #[.int .i64 1, .slice A2 xs.length k2, .slice none 0 0, .slice A3 L.length k3] 28 (0, 0))) (by kernel_rfl) HG3.out (fun hHeld => ?_)
          have H4 := Aside0.mk HM3.out.drew
          have R4 := Aside0.mk (Kd.R_below HR3.out (Below.refl _ _).drew)
          have R5 := Aside0.mk (Kd.R_below HR4.out (Below.refl _ _).drew)
          obtain ⟨wd, hwd⟩ : ∃ wd, wd = wc.drew := ⟨_, rfl⟩
          have hG : wc.drew.heap[g]? = some (.cells #[.int .i64 1, .slice A2 xs.length k2, .slice none 0 0, .slice A3 L.length k3] 28 (0, 0)) := HG3.out
          rw [← hwd] at H4 R4 R5 hHeld hG ⊢
          have HG4 := Aside0.mk hG
          clear hwd hG
          refine wpAnyH_take (i := 0) (v := ?_) rfl (by kernel_rfl) (by kernel_rfl) (by kernel_rfl) (fun _ _ _ h => h) (Or.inl ⟨by rfl, ?_⟩) (by assumption) ?_
          rotate_left 1
          · first | (intro w hSw; obtain ⟨⟨c0, c1, c2, c3⟩, _⟩ := M_cells hSw; go_simp; done) | (intro w hSw; obtain ⟨⟨c0, c1, c2, c3⟩, _⟩ := M_cells hSw; go_simp; with_reducible rfl)
          try simp only [Act.put, List.getElem_toArray, List.getElem_cons_zero, List.getElem_cons_succ, List.setIfInBounds_toArray, List.set_cons_zero, List.set_cons_succ]
          refine wpAnyH_take (i := 1) (v := ?_) rfl (by kernel_rfl) (by kernel_rfl) (by kernel_rfl) (fun _ _ _ h => h) (Or.inl ⟨by rfl, ?_⟩) (by assumption) ?_
          rotate_left 1
          · first | (intro w hSw; go_simp; done) | (intro w hSw; go_simp; with_reducible rfl)
          try simp only [Act.put, List.getElem_toArray, List.getElem_cons_zero, List.getElem_cons_succ, List.setIfInBounds_toArray, List.set_cons_zero, List.set_cons_succ]
          refine wpAnyH_take (i := 2) (v := ?_) rfl (by kernel_rfl) (by kernel_rfl) (by kernel_rfl) (fun _ _ _ h => h) (Or.inl ⟨by rfl, ?_⟩) (by assumption) ?_
          rotate_left 1
          · first | (intro w hSw; obtain ⟨⟨c0, c1, c2, c3⟩, _⟩ := M_cells hSw; go_simp; done) | (intro w hSw; obtain ⟨⟨c0, c1, c2, c3⟩, _⟩ := M_cells hSw; go_simp; with_reducible rfl)
          try simp only [Act.put, List.getElem_toArray, List.getElem_cons_zero, List.getElem_cons_succ, List.setIfInBounds_toArray, List.set_cons_zero, List.set_cons_succ]
          refine wpAnyH_take (i := 3) (v := ?_) rfl (by kernel_rfl) (by kernel_rfl) (by kernel_rfl) (fun _ _ _ h => h) (Or.inl ⟨by rfl, ?_⟩) (by assumption) ?_
          rotate_left 1
          · first | (intro w hSw; go_simp; done) | (intro w hSw; go_simp; with_reducible rfl)
          try simp only [Act.put, List.getElem_toArray, List.getElem_cons_zero, List.getElem_cons_succ, List.setIfInBounds_toArray, List.set_cons_zero, List.set_cons_succ]
          refine wpAnyH_take (i := 4) (v := ?_) rfl (by kernel_rfl) (by kernel_rfl) (by kernel_rfl) (fun _ _ _ h => h) (Or.inl ⟨by rfl, ?_⟩) (by assumption) ?_
          rotate_left 1
          · first | (intro w hSw; go_simp; done) | (intro w hSw; go_simp; with_reducible rfl)
          try simp only [Act.put, List.getElem_toArray, List.getElem_cons_zero, List.getElem_cons_succ, List.setIfInBounds_toArray, List.set_cons_zero, List.set_cons_succ]
          obtain ⟨⟨g0, g1, g2, g3⟩, g4, g5, g6, g7⟩ := M_cells (H4.out.res)
          obtain ⟨⟨q0, q1, q2⟩, q3, q4, q5⟩ := E_cells (x := (0, 0)) (H4.out.res2)
          refine wpAnyH_ready (rs := [5]) (by kernel_rfl) (by simp) ?_
          refine AllReadyH.cons rfl (fun K hK => ?_) AllReadyH.nil
          go_simp
          refine hK.out _ _ (put_both HG4.out (show w.heap.size + 1 ≠ g by have := HF3.out; omega) (.int .i64 1) (.slice A2 xs.length k2) (.slice none 0 0) (.slice A3 L.length k3)) (fun hHeld => ?_)
          clear hK K g0 g1 g2 g3 g4 g5 g6 g7 q0 q1 q2 q3 q4 q5
          try simp only [Act.put, List.getElem_toArray, List.getElem_cons_zero, List.getElem_cons_succ, List.setIfInBounds_toArray, List.set_cons_zero, List.set_cons_succ]
          obtain ⟨⟨q0, q1, q2⟩, q3, q4, q5⟩ := E_cells (x := (0, 0)) (put_both (H4.out.res2) (show w.heap.size + 1 ≠ w.heap.size + 2 by omega) (.int .i64 1) (.slice A2 xs.length k2) (.slice none 0 0) (.slice A3 L.length k3))
          refine wpAnyH_take (i := 6) (v := ?_) rfl (by kernel_rfl) (by kernel_rfl) (by kernel_rfl) (fun _ _ _ h => h) (Or.inl ⟨by rfl, ?_⟩) (by assumption) ?_
          rotate_left 1
          · first | (intro w hSw; go_simp; done) | (intro w hSw; go_simp; with_reducible rfl)
          try simp only [Act.put, List.getElem_toArray, List.getElem_cons_zero, List.getElem_cons_succ, List.setIfInBounds_toArray, List.set_cons_zero, List.set_cons_succ]
          refine wpAnyH_ready (rs := [7]) (by kernel_rfl) (by simp) ?_
          refine AllReadyH.cons rfl (fun K hK => ?_) AllReadyH.nil
          go_simp
          refine hK.out _ _ (put_back (put_both HG4.out (show w.heap.size + 1 ≠ g by have := HF3.out; omega) (.int .i64 1) (.slice A2 xs.length k2) (.slice none 0 0) (.slice A3 L.length k3)) (show g ≠ w.heap.size + 2 by have := HF3.out; omega) (.bool false) (.slice none 0 0) (.int .i64 0)) (fun hHeld => ?_)
          clear hK K
          try simp only [Act.put, List.getElem_toArray, List.getElem_cons_zero, List.getElem_cons_succ, List.setIfInBounds_toArray, List.set_cons_zero, List.set_cons_succ]
          refine wpAnyH_done (by kernel_rfl) ?_ _
          refine NoPanic.normal ?_
          go_wp2
          (try simp only [Exit.inBlock, Exit.then])
          obtain ⟨⟨y0, y1, y2, y3⟩, _⟩ := M_cells (put_back (M_put (H4.out.res) (.int .i64 1) (.slice A2 xs.length k2) (.slice none 0 0) (.slice A3 L.length k3)) (show w.heap.size + 1 ≠ w.heap.size + 2 by omega) (.bool false) (.slice none 0 0) (.int .i64 0))
          obtain ⟨⟨x0, x1, x2⟩, _⟩ := E_cells (x := (0, 0)) (E_put (put_both (H4.out.res2) (show w.heap.size + 1 ≠ w.heap.size + 2 by omega) (.int .i64 1) (.slice A2 xs.length k2) (.slice none 0 0) (.slice A3 L.length k3)) (.bool false) (.slice none 0 0) (.int .i64 0))
          refine bodyPost_ret (v := .tuple #[.agg #[.int .i64 1, .slice A2 xs.length k2, .slice none 0 0, .slice A3 L.length k3], .int .i64 L.length, .agg #[.bool false, .slice none 0 0, .int .i64 0]]) (by simp [results, Tryd.results20, go_sem, y0, y1, y2, y3, x0, x1, x2]) rfl ⟨A2, k2, A3, k3, by rw [show ((dc.length : Int) + 1) = L.length by rw [HLL.out]; simp], ?_, ?_, ?_⟩
          · exact Kd.R_lower (R_put3 (R_put4 R4.out (show w.heap.size + 1 < w.heap.size + 3 by omega) (.int .i64 1) (.slice A2 xs.length k2) (.slice none 0 0) (.slice A3 L.length k3)) (show w.heap.size + 2 < w.heap.size + 3 by omega) (.bool false) (.slice none 0 0) (.int .i64 0)) (by omega)
          · exact Kd.R_lower (R_put3 (R_put4 R5.out (show w.heap.size + 1 < w.heap.size + 3 by omega) (.int .i64 1) (.slice A2 xs.length k2) (.slice none 0 0) (.slice A3 L.length k3)) (show w.heap.size + 2 < w.heap.size + 3 by omega) (.bool false) (.slice none 0 0) (.int .i64 0)) (by omega)
          · exact below_put3 (below_put4 H4.out.below (show w.heap.size ≤ w.heap.size + 1 by omega) (.int .i64 1) (.slice A2 xs.length k2) (.slice none 0 0) (.slice A3 L.length k3)) (show w.heap.size ≤ w.heap.size + 2 by omega) (.bool false) (.slice none 0 0) (.int .i64 0)
end Go.Proofs.YtmhfigkdeeldnaaDoor
