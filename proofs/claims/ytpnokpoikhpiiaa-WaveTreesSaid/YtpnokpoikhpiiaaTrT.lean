/- The walk of WaveTrees. -/
import Derived.Test.YtpnokpoikhpiiaaTrM
import Derived.Test.YtpnokpoikhpiiaaWvAwake
import Derived.Deep.DeepCutAuto
import Derived.Deep.RegionHeld3
namespace Go.Proofs.Ytpnokpoikhpiiaa
open Go.RowKit Go.Maps Go.Proofs.YtpnokpoikhpiiaaW.PrintWords Go.Proofs.YtpnokpoikhpiiaaW.PrintLast Go.Proofs.YtpnokpoikhpiiaaW.PrintMore
open WvTree WvSim
attribute [local go_sem] max2_int min2_int max_two min_two
set_option linter.unusedVariables false
set_option linter.unusedSimpArgs false
theorem fieldE (b : Bool) (A : Option Addr) (n c : Nat) (cd : Int) (w : World) : (Instr.field 30 (.agg #[.bool b, .slice A n c, .int .i64 cd]) 0).run Try.prog w = .ok (.bool b) w := by kernel_rfl
def mu (ms : List Int) (ls : List (Int × Int)) (s : St) : Nat := (ms.length - cnt ms s.bg) + s.todo.length + 2 * (2 * ls.length - s.all.length)
theorem reps (n : Nat) : ((List.replicate n false).map Value.bool).toArray = Array.replicate n (.bool false) := by simp
theorem begun_cell {W : World} {bb i : Nat} {bs : List Bool} {t : Nat} (h : W.heap[bb]? = some (.cells (bs.map Value.bool).toArray t (0, 0))) (hi : i < bs.length) : W.cell? ⟨bb, i, none⟩ = some (.bool (bs.getD i false)) := by
  rw [blk_cell h i]
  simp [List.getD_eq_getElem?_getD, hi]
theorem find_step {n j0 a a2 : Nat} (h1 : (a + 1 < n ∧ a2 = a + 1) ∨ (a + 1 = n ∧ a2 = 0)) (h2 : a ≠ j0) (h3 : a < n) (h4 : j0 < n) : (if a2 ≤ j0 then j0 - a2 else j0 + n - a2) < if a ≤ j0 then j0 - a else j0 + n - a := by
  by_cases x : a2 ≤ j0 <;> by_cases y : a ≤ j0 <;> simp only [x, y, if_true, if_false] <;> omega
theorem p_at {ws : List WI} {i : Nat} (h : i < ws.length) : (ws.map WI.p).getD i 0 = (wAt ws i).p := by
  simp [wAt, List.getD_eq_getElem?_getD, h]
theorem set_getD (bs : List Bool) (a i : Nat) (h : a < bs.length) : (bs.set a true).getD i false = if i = a then true else bs.getD i false := by
  by_cases e : i = a
  · subst e; simp [List.getD_eq_getElem?_getD, h]
  · rw [if_neg e]
    simp only [List.getD_eq_getElem?_getD, List.getElem?_set]
    rw [if_neg (fun h : a = i => e h.symm)]
theorem mu_begin {ms : List Int} {ls : List (Int × Int)} {s : St} (T : IsTree ms ls) (h : Inv (WvTree.Edge ls) ms (near15 ls) s) {u : Int} (hu : u ∈ ms) (hb : s.bg u = false) : mu ms ls (begin_ (near15 ls) s u) + 1 ≤ mu ms ls s := by
  have h1 := all_len T (h.begin_ok T.net hu hb)
  have h2 := cnt_begin (MOk.nodup T.mok) hu hb
  have h3 := cnt_le ms (upd s.bg u true)
  simp only [begin_, List.length_append, List.length_map] at h1
  simp only [mu, begin_, List.length_append, List.length_map]
  omega
theorem mu_hear {ms : List Int} {ls : List (Int × Int)} {s : St} (T : IsTree ms ls) (h : Inv (WvTree.Edge ls) ms (near15 ls) s) {x u : Int} {t1 : List (Int × Int)} (hm : (x, u) ∈ s.todo) (h1 : t1.Nodup) (h2 : ∀ m, m ∈ t1 ↔ m ∈ s.todo ∧ m ≠ (x, u)) (hl : t1.length + 1 = s.todo.length) : mu ms ls (hear_ (near15 ls) s x u t1) + 1 ≤ mu ms ls s := by
  have h3 := all_len T (h.hear_ok T.net hm h1 h2)
  simp only [hear_, List.length_append, List.length_map] at h3
  simp only [mu, hear_, List.length_append, List.length_map]
  omega
theorem todo_less {l : List (Int × Int)} (hn : l.Nodup) {j : Nat} (hj : j < l.length) : (l.take j ++ l.drop (j + 1)).Nodup ∧ (∀ m, m ∈ l.take j ++ l.drop (j + 1) ↔ m ∈ l ∧ m ≠ lkAt l j) ∧ (l.take j ++ l.drop (j + 1)).length + 1 = l.length := by
  have e : l = l.take j ++ (lkAt l j :: l.drop (j + 1)) := by
    rw [lkAt_get l j hj, ← List.drop_eq_getElem_cons hj, List.take_append_drop]
  have hn2 := hn
  rw [e] at hn2
  have hp := (List.perm_middle (a := lkAt l j) (l₁ := l.take j) (l₂ := l.drop (j + 1)))
  have hn3 := List.nodup_cons.1 (hp.nodup_iff.1 hn2)
  refine ⟨hn3.2, fun m => ?_, ?_⟩
  · constructor
    · intro h
      refine ⟨?_, fun hx => hn3.1 (hx ▸ h)⟩
      rw [e]
      rcases List.mem_append.1 h with h | h
      · exact List.mem_append_left _ h
      · exact List.mem_append_right _ (List.mem_cons_of_mem _ h)
    · rintro ⟨h, hx⟩
      rw [e] at h
      rcases List.mem_append.1 h with h | h
      · exact List.mem_append_left _ h
      · rcases List.mem_cons.1 h with h | h
        · exact absurd h hx
        · exact List.mem_append_right _ h
  · simp only [List.length_append, List.length_take, List.length_drop]
    omega
theorem add_block (ad : Addr) (a : Nat) : (ad.add a).block = ad.block := by
  unfold Addr.add
  split <;> rfl
theorem own_of_row {α : Type} {dd : Kd α} {e base n c : Nat} {ok : Nat → Prop} {w : World} {A : Option Addr} {xs : List α} (h : dd.R e w base ok (.slice A n c) xs) {ad : Addr} (he : A = some ad) (hn : 0 < xs.length) : (Value.slice A n c).ownBlock = some ad.block := by
  obtain ⟨inner, ho⟩ := Kd.R_own h
  have hl := (Kd.R_reads' h).1
  rcases ho.2 with ⟨_, h0⟩ | ⟨g, cap, _, he2, hb, _⟩
  · omega
  · subst he
    injection he2 with h1 _ _
    injection h1 with h1
    subst h1
    simp [Value.ownBlock]
theorem Kept.cellk {w W : World} {S : Nat → Prop} (h : Kept w W S) {p : Addr} (h1 : p.block < w.heap.size) (h2 : ¬ S p.block) : W.cell? p = w.cell? p := World.cell?_of_block (w := w) (h.2 _ h1 h2)
theorem lk_empty (w : World) (base : Nat) (hb : base ≤ w.heap.size) (t : TypeId) : kLk.R t (w.alloc (.cells #[] t)) base (fun _ => True) (.slice (some ⟨w.heap.size, 0, none⟩) 0 0) [] := by
  refine ⟨fun _ _ => trivial, [], ?_, Reps.none _ _⟩
  have h2 := World.ownsRow_lit (base := base) (e := t) (size := 2) w #[] 0 hb (by decide) (by simp)
  have h3 : (w.alloc (.cells #[] t)).ownsRow base t 2 (.slice (some ⟨w.heap.size, 0, none⟩) 0 0) 0 [] := by simpa using h2
  exact h3
def st0 : St := { heard := fun _ => [], told := fun _ => [], bg := fun _ => false, todo := [], all := [] }
theorem cnt0 (ms : List Int) : cnt ms st0.bg = 0 := by simp [cnt, st0]
set_option maxRecDepth 100000 in
set_option maxHeartbeats 8000000 in
theorem trees_walk (w : World) (A B CA : Option Addr) (c d cc : Nat) (ms : List Int) (ls : List (Int × Int)) (ch : List Int) (hr : (Kd.int .i64).C w A ms.length ms) (hl : kLk.C w B ls.length ls) (hch : (Kd.int .i64).C w CA ch.length ch) :
    Calls Try.prog 3 #[.agg #[.slice A ms.length c, .slice B ls.length d], .slice CA ch.length cc] w fun e w' => e = .returned (.bool true) ∧ Below w.heap.size w w' := by
  have HR := Lib.hid hr
  have HL := Lib.hid hl
  have HCH := Lib.hid hch
  have hm : (ms.length : Int) ≤ 9223372036854775807 := by have : ms.length ≤ 9223372036854775807 := hr.2.1; omega
  have hm2 : (ls.length : Int) ≤ 9223372036854775807 := by have : ls.length ≤ 9223372036854775807 := hl.2.1; omega
  have hm3 : (ch.length : Int) ≤ 9223372036854775807 := by have : ch.length ≤ 9223372036854775807 := hch.2.1; omega
  clear hr hl hch
  have hfd := fieldE
  go_enter Try.func3, Try.ntmps3
  go_upto_region 1 with (fail)
  obtain ⟨wz, hwz⟩ : ∃ wz, wz = w.alloc (.cells #[.slice A ms.length c, .slice B ls.length d] 25) := ⟨_, rfl⟩
  rw [← hwz]
  have HBG := Aside0.mk (show wz.heap[w.heap.size]? = some (.cells #[.slice A ms.length c, .slice B ls.length d] 25 (0, 0)) by rw [hwz]; exact heap_alloc_new _ _)
  have HBW := Aside0.mk (show Below w.heap.size w wz by rw [hwz]; exact below_alloc (Below.refl _ _) _)
  clear hwz
  by_cases hT : IsTree ms ls
  · have HT := Lib.hid hT
    clear hT
    by_cases hc : (ch.length : Int) > 200
    · have hcb : decide ((ch.length : Int) > 200) = true := by simpa using hc
      clear hc
      go_wp2_with (first
        | (go_at_call 5; refine (awake_calls _).mono ?_; rintro e w1 ⟨rfl, hb⟩; have H1 := Aside0.mk (below_step HBW.out hb); have HG1 := Aside0.mk ((hb.block _ (blk_lt HBG.out)).trans HBG.out); clear hb; obtain ⟨g2, g3⟩ := P_cells (x := (0, 0)) HG1.out)
        | (go_at_call 6; refine (check15_calls _ _ _ _ _ ms ls (Kd.C_below HR.out H1.out) (Kd.C_below HL.out H1.out)).mono ?_; rintro e w2 ⟨b, X, n, cc2, cd, rfl, hb, hbl⟩; obtain rfl := hb.2 HT.out; have H2 := Aside0.mk (below_step H1.out hbl); have HG2 := Aside0.mk ((hbl.block _ (blk_lt HG1.out)).trans HG1.out); clear hb hbl; obtain ⟨g4, g5⟩ := P_cells (x := (0, 0)) HG2.out))
      go_ret
      exact ⟨rfl, H2.out⟩
    · have hcb : decide ((ch.length : Int) > 200) = false := by simpa using hc
      have hch200 : (ch.length : Int) ≤ 200 := by omega
      have hm8 : (ms.length : Int) ≤ 8 := by have := HT.out.m8; omega
      have hmk : ∀ W : World, (Instr.makeSlice 35 (.int .i64 (ms.length : Int)) (.int .i64 (ms.length : Int))).run Try.prog W = .ok (.slice (some ⟨W.heap.size, 0, none⟩) ms.length ms.length) (W.alloc (.cells (Array.replicate ms.length (.bool false)) 4)) := fun W => by rw [← reps, ← made_bools]; exact run_make_row' _ _ (.bool false) 1 Try.underlying35 infoB rfl .i64 .i64 ms.length (by omega) (by omega) W
      have hnn : ((ms.length : Int) != (ms.length : Int)) = false := by simp
      clear hc
      go_upto_region 12 with (first
        | (go_at_call 5; refine (awake_calls _).mono ?_; rintro e w1 ⟨rfl, hb⟩; have H1 := Aside0.mk (below_step HBW.out hb); have HG1 := Aside0.mk ((hb.block _ (blk_lt HBG.out)).trans HBG.out); clear hb; obtain ⟨g2, g3⟩ := P_cells (x := (0, 0)) HG1.out)
        | (go_at_call 6; refine (check15_calls _ _ _ _ _ ms ls (Kd.C_below HR.out H1.out) (Kd.C_below HL.out H1.out)).mono ?_; rintro e w2 ⟨b, X, n, cc2, cd, rfl, hb, hbl⟩; obtain rfl := hb.2 HT.out; have H2 := Aside0.mk (below_step H1.out hbl); have HG2 := Aside0.mk ((hbl.block _ (blk_lt HG1.out)).trans HG1.out); clear hb hbl; obtain ⟨g4, g5⟩ := P_cells (x := (0, 0)) HG2.out)
        | (go_at_call 7; refine (waves_calls _ _ _ _ _ ms ls (Kd.C_below HR.out H2.out) (Kd.C_below HL.out H2.out) HT.out).mono ?_; rintro e w3 ⟨v5, ws, rfl, hwl, hR, hW, hO, hbl⟩; have HPS := Lib.hid (show (ws.map WI.p).length = ms.length by rw [List.length_map]; exact hwl); obtain ⟨A5, c5, rfl⟩ := Kd.R_slice hR; rw [HPS.out]; have HWL := Lib.hid hwl; have HRP := Aside0.mk hR; have HWV := Aside0.mk hW; have HOW := Lib.hid hO; have H3 := Aside0.mk (below_step H2.out hbl); have HB3 := Aside0.mk hbl; have HG3 := Aside0.mk ((hbl.block _ (blk_lt HG2.out)).trans HG2.out); clear hR hW hO hbl hwl; obtain ⟨g6, g7⟩ := P_cells (x := (0, 0)) HG3.out))
      clear hmk hfd g2 g3 g4 g5 g6 g7 hnn hcb
      obtain ⟨w5, hw5⟩ : ∃ w5, w5 = w3.alloc (.cells (Array.replicate ms.length (.bool false)) 4) := ⟨_, rfl⟩
      rw [← hw5]
      have HS5 := Lib.hid (show w5.heap.size = w3.heap.size + 1 by rw [hw5, alloc_sz])
      have HB5 := Aside0.mk (show Below w3.heap.size w3 w5 by rw [hw5]; exact below_alloc (Below.refl _ _) _)
      have HBB := Aside0.mk (show w5.heap[w3.heap.size]? = some (.cells ((List.replicate ms.length false).map Value.bool).toArray 4 (0, 0)) by rw [reps, hw5]; exact heap_alloc_new _ _)
      clear hw5
      have hwv3 := HWV.out
      have hge := H2.out.size
      have HMEM := Aside0.mk (show Mem w w5 w5 w3.heap.size ws (ndOf ms ls st0) (List.replicate ms.length false) (.slice none 0 0) (.slice none 0 0) (.slice none 0 0) st0.todo st0.all [] from
        ⟨fun k _ _ _ => rfl, Nat.le_refl _, below_step H3.out HB5.out,
         ⟨fun i hi => (hwv3.is i hi).below HB5.out, fun i hi => Nat.le_trans hge (hwv3.lo i hi), fun i hi => Nat.le_trans (hwv3.hi i hi) HB5.out.size, hwv3.sep⟩,
         fun k hk => Nat.lt_of_lt_of_le (hwv3.lt hk).2 HB5.out.size, by rw [HS5.out]; omega, fun hk => by have := (hwv3.lt hk).2; omega, H3.out.size, HBB.out, Kd.R_nil _ _ _ _ _, Kd.R_nil _ _ _ _ _, Kd.R_nil _ _ _ _ _,
         fun k hk => by simp [Value.ownBlock] at hk, fun k hk => by simp [Value.ownBlock] at hk, fun k hk => by simp [Value.ownBlock] at hk⟩)
      -- what never changes: the graph's box, the row of the waves
      have HGB := Lib.hid (show ∀ W : World, (∀ k, k < w5.heap.size → ¬ InW ws k → k ≠ w3.heap.size → W.heap[k]? = w5.heap[k]?) → W.heap[w.heap.size]? = some (.cells #[.slice A ms.length c, .slice B ls.length d] 25 (0, 0)) from fun W hW => by
        have h1 := blk_lt HG3.out
        have h2 := blk_lt HG2.out
        rw [hW _ (by rw [HS5.out]; omega) (fun hk => by have := (hwv3.lt hk).1; omega) (by omega)]
        exact (HB5.out.block _ h1).trans HG3.out)
      have HPW := Lib.hid (show ∀ W : World, (∀ k, k < w5.heap.size → ¬ InW ws k → k ≠ w3.heap.size → W.heap[k]? = w5.heap[k]?) → kP.C W A5 (ws.map WI.p).length (ws.map WI.p) from fun W hW => by
        have h1 := R_own_move (dd := kP) (fun h => h) HRP.out (w1 := W) (fun k hk => by
          have h2 := R_own_lt HRP.out hk
          rw [hW k (by rw [HS5.out]; omega) (HOW.out k hk) (by omega)]
          exact HB5.out.block _ h2.2)
        have := (Kd.R_reads' h1).2.2
        rw [HPS.out] at this ⊢
        exact this)
      have HPO := Lib.hid (show ∀ W : World, (∀ k, k < w5.heap.size → ¬ InW ws k → k ≠ w3.heap.size → W.heap[k]? = w5.heap[k]?) → ∀ ad, A5 = some ad → ∀ a, a < ws.length → ¬ In (wAt ws a).lo (wAt ws a).hi (ad.add a).block from fun W _ ad he a ha hc => by
        have h1 : (Value.slice A5 (ws.map WI.p).length c5).ownBlock = some ad.block := own_of_row HRP.out he (by rw [HPS.out]; exact List.length_pos_iff.2 HT.out.ne)
        exact HOW.out _ h1 ⟨a, ha, by rw [add_block] at hc; exact hc⟩)
      clear hwv3 hge HB3 HRP HWV HOW HBB HB5 HG1 HG2 HG3 HBG H1
      go_wp2
      go_loopw [7, 8, 10, 11] (fun v7 v8 v10 v11 wr => ∃ (s : St) (k : Nat) (bs : List Bool), v10 = .int .i64 (cnt ms s.bg) ∧ v11 = .int .i64 k ∧ Aside0 (Mem w w5 wr w3.heap.size ws (ndOf ms ls s) bs v7 v8 (.slice none 0 0) s.todo s.all []) ∧ Hid (Inv (WvTree.Edge ls) ms (near15 ls) s) ∧ Hid (bs.length = ms.length ∧ (∀ i, i < ms.length → bs.getD i false = s.bg (rd ms i)) ∧ k + mu ms ls s ≤ 100)) (fun _ _ _ v _ => 100 - (intOf v).toNat)
      case atStart =>
        refine ⟨st0, 0, List.replicate ms.length false, by rw [cnt0]; rfl, rfl, HMEM, Inv.start, by simp, fun i hi => by simp [st0, List.getD_eq_getElem?_getD, List.getElem?_replicate, hi], ?_⟩
        have h1 := HT.out.len
        have h2 := HT.out.m8
        simp [mu, st0]
        omega
      case round =>
        obtain ⟨s, k, bs, rfl, rfl, HM, HI, HS⟩ := hrel
        obtain ⟨A7, c7, rfl⟩ := Kd.R_slice HM.out.rt
        obtain ⟨A8, c8, rfl⟩ := Kd.R_slice HM.out.ra
        have HCL := Lib.hid (cnt_le ms s.bg)
        have HAL := Lib.hid (all_len HT.out HI.out)
        obtain ⟨cn, hcn⟩ : ∃ cn, cn = cnt ms s.bg := ⟨_, rfl⟩
        have HCN := Lib.hid hcn
        rw [← hcn] at HCL ⊢
        obtain ⟨tl, htl⟩ : ∃ tl, tl = s.todo.length := ⟨_, rfl⟩
        have HTL := Lib.hid htl
        have htd := Lib.hid (show s.todo.length ≤ s.all.length from LC.length_le_of_subset HI.out.dn HI.out.da)
        have hls := HT.out.len
        have hms8 := HT.out.m8
        have htl2 : (tl : Int) ≤ 14 := by have := htd.out; have := HAL.out; omega
        have hcnI : (cn : Int) ≤ ms.length := by have := HCL.out; omega
        have hnp : (0 : Int) < ms.length := by omega
        have HNP := Lib.hid (show 0 < ms.length by omega)
        have HLS := Lib.hid hls
        rw [← htl] at HM ⊢
        clear hcn htl hls hms8
        obtain ⟨E, hE⟩ : ∃ E : Bool, E = (decide (cn < ms.length) || decide (0 < tl)) := ⟨_, rfl⟩
        have HE := Lib.hid hE
        clear hE
        go_upto_region 13 with (fail)
        go_cut [55] (fun s55 wx => s55 = .bool E ∧ wx = wr)
        case first =>
          --<1
          by_cases e1 : cn < ms.length
          · have e1b : decide ((cn : Int) < ms.length) = true := decide_eq_true (by omega)
            have HV := Lib.hid (show E = true by rw [HE.out]; simp [e1])
            go_wp2
            go_meet
            case rel => rw [HV.out]; exact ⟨rfl, rfl⟩
          · have e1b : decide ((cn : Int) < ms.length) = false := decide_eq_false (by omega)
            by_cases e2 : 0 < tl
            · have e2b : decide ((tl : Int) > 0) = true := decide_eq_true (by omega)
              have HV := Lib.hid (show E = true by rw [HE.out]; simp [e2])
              go_wp2
              go_meet
              case rel => rw [HV.out]; exact ⟨rfl, rfl⟩
            · have e2b : decide ((tl : Int) > 0) = false := decide_eq_false (by omega)
              have HV := Lib.hid (show E = false by rw [HE.out]; simp [e1, e2])
              go_wp2
              go_meet
              case rel => rw [HV.out]; exact ⟨rfl, rfl⟩
          -->1
        case rest =>
          obtain ⟨rfl, hwx⟩ := hcut
          subst hwx
          cases E with
          | false =>
            --<6
            have hfin : cn = ms.length ∧ tl = 0 := by
              have h1 := HE.out
              have h2 := HCL.out
              have h3 := Bool.or_eq_false_iff.1 h1.symm
              have h4 := of_decide_eq_false h3.1
              have h5 := of_decide_eq_false h3.2
              omega
            have hbga : ∀ a, a ∈ ms → s.bg a = true := cnt_full (by rw [← HCN.out]; exact hfin.1)
            have htd0 : s.todo = [] := List.eq_nil_of_length_eq_zero (by rw [← HTL.out]; exact hfin.2)
            have HEND := Lib.hid (show ∀ a, a < ms.length → ((ndOf ms ls s a).bg && (ndOf ms ls s a).heard.length == (ndOf ms ls s a).near.length) = true from fun a ha => end_done HT.out HI.out hbga htd0 ha)
            have HLEN := Lib.hid (all_len_end HT.out HI.out hbga htd0)
            clear hfin hbga htd0
            go_wp2
            go_loopw [192] (fun v192 wr => ∃ z : Nat, v192 = .int .i64 z ∧ z ≤ ms.length ∧ Aside0 (Mem w w5 wr w3.heap.size ws (ndOf ms ls s) bs (.slice A7 tl c7) (.slice A8 s.all.length c8) (.slice none 0 0) s.todo s.all [])) (fun v _ => ms.length - (intOf v).toNat)
            case atStart => exact ⟨0, rfl, Nat.zero_le _, HM⟩
            case round =>
              obtain ⟨z, rfl, hz, HMZ⟩ := hrel
              by_cases hlt : z < ms.length
              · have HLZ := Lib.hid hlt
                have z0 : (0 : Int) ≤ z := by omega
                have z1 : (z : Int) < ms.length := by omega
                have HAW := Lib.hid (show z < ws.length by rw [HWL.out]; exact hlt)
                have HFI := Lib.hid (Inv.fine HT.out HI.out (rd_mem ms z hlt))
                obtain ⟨adp, rfl, hpc⟩ := P_at (HPW.out wr HMZ.out.old) (k := z) (by rw [HPS.out]; exact hlt)
                rw [p_at HAW.out] at hpc
                clear hlt
                go_wp2_with (go_at_call 11; refine (done_calls _ (wAt ws z).lo (wAt ws z).hi _ (ndOf ms ls s z) HFI.out (HMZ.out.wv.is z HAW.out)).mono ?_; rintro e w6 ⟨rfl, ⟨⟨n6, rfl⟩⟩⟩; rw [HEND.out z HLZ.out])
                go_roundw
                case rel => exact ⟨z + 1, by go_num, by have := HLZ.out; omega, ⟨HMZ.out.drew n6⟩⟩
                case measure => have := HLZ.out; simp [intOf]; omega
              · have z1 : ¬ (z : Int) < ms.length := by omega
                obtain ⟨g0, g1⟩ := P_cells (x := (0, 0)) (HGB.out wr HMZ.out.old)
                have hlsb : (ls.length : Int) ≤ 8 := by have := HLS.out; omega
                have hll : (s.all.length : Int) = 2 * (ls.length : Int) := by have := HLEN.out; omega
                have hlb : ((s.all.length : Int) == 2 * (ls.length : Int)) = true := beq_iff_eq.2 hll
                have hlc : (s.all.length == 2 * ls.length) = true := beq_iff_eq.2 HLEN.out
                clear hlt
                go_wp2
                go_ret
                refine ⟨?_, HMZ.out.below⟩
                first
                  | rfl
                  | (simp [HLEN.out]; done)
                  | (rw [hlb])
            -->6
          | true =>
            have HK := Lib.hid (show k < 100 by
              have h1 := HS.out.2.2
              have h2 := HE.out
              have h3 := HCN.out
              have h4 := HTL.out
              have h5 := HCL.out
              unfold mu at h1
              simp only [Bool.true_eq, Bool.or_eq_true, decide_eq_true_eq] at h2
              omega)
            have k0 : (0 : Int) ≤ k := by omega
            have k1 : (k : Int) < 100 := by have := HK.out; omega
            go_upto_if 62 with (fail)
            go_cut [12] (fun s12 wx => ∃ cv : Nat, s12 = .int .i64 cv ∧ wx = wc)
            case first =>
              --<1
              by_cases e1 : k < ch.length
              · have e1b : decide ((k : Int) < ch.length) = true := decide_eq_true (by omega)
                have e1c : (k : Int) < ch.length := by omega
                obtain ⟨adc, rfl, hcc⟩ := C_cell (Kd.C_below HCH.out HM.out.below) e1
                obtain ⟨x, hx⟩ : ∃ x, x = rd ch k := ⟨_, rfl⟩
                rw [← hx] at hcc
                clear hx
                by_cases e2 : 0 < x
                · obtain ⟨xn, rfl⟩ := Int.eq_ofNat_of_zero_le (show 0 ≤ x by omega)
                  go_wp2
                  go_meet
                  case rel => exact ⟨xn, rfl, rfl⟩
                · go_wp2
                  go_meet
                  case rel => exact ⟨0, rfl, rfl⟩
              · have e1b : decide ((k : Int) < ch.length) = false := decide_eq_false (by omega)
                have e1c : ¬ (k : Int) < ch.length := by omega
                go_wp2
                go_meet
                case rel => exact ⟨k, rfl, rfl⟩
              -->1
            case rest =>
              obtain ⟨cv, rfl, hwx⟩ := hcut
              subst hwx
              obtain ⟨iN, hiN⟩ : ∃ iN, iN = cv % (ms.length + tl) := ⟨_, rfl⟩
              have hrem : Int.tmod (cv : Int) ((ms.length : Int) + tl) = (iN : Int) := by rw [hiN]; exact (Int.ofNat_tmod cv (ms.length + tl)).symm
              have hnz : ((ms.length : Int) + tl == 0) = false := beq_eq_false_iff_ne.2 (by omega)
              have hnz2 : ¬ ((ms.length : Int) + tl = 0) := by omega
              have hil : iN < ms.length + tl := by rw [hiN]; exact Nat.mod_lt _ (by have := HNP.out; omega)
              have hil2 : (iN : Int) < ms.length + tl := by omega
              have HIL := Lib.hid hil
              clear hiN hil
              go_upto_region 22 with (fail)
              have HBS := Lib.hid HS.out.1
              obtain ⟨b, hb⟩ : ∃ b, b = bs.getD iN false := ⟨_, rfl⟩
              have HB := Lib.hid hb
              clear hb
              obtain ⟨G, hG⟩ : ∃ G : Bool, G = ((decide (iN < ms.length) && !b) || decide (tl = 0)) := ⟨_, rfl⟩
              have HGG := Lib.hid hG
              clear hG hrem hnz hnz2
              go_cut [88] (fun s88 wx => s88 = .bool G ∧ wx = wc)
              case first =>
                --<1
                by_cases f1 : iN < ms.length
                · have f1b : decide ((iN : Int) < ms.length) = true := decide_eq_true (by omega)
                  have f1c : (iN : Int) < ms.length := by omega
                  have hbc := begun_cell HM.out.bg (i := iN) (by rw [HBS.out]; exact f1)
                  rw [← HB.out] at hbc
                  cases b with
                  | false =>
                    have HV := Lib.hid (show G = true by rw [HGG.out]; simp [f1])
                    go_wp2
                    go_meet
                    case rel => rw [HV.out]; exact ⟨rfl, rfl⟩
                  | true =>
                    by_cases f2 : tl = 0
                    · have f2b : ((tl : Int) == 0) = true := beq_iff_eq.2 (by omega)
                      have HV := Lib.hid (show G = true by rw [HGG.out]; simp [f2])
                      go_wp2
                      go_meet
                      case rel => rw [HV.out]; exact ⟨rfl, rfl⟩
                    · have f2b : ((tl : Int) == 0) = false := beq_eq_false_iff_ne.2 (by omega)
                      have HV := Lib.hid (show G = false by rw [HGG.out]; simp [f2])
                      go_wp2
                      go_meet
                      case rel => rw [HV.out]; exact ⟨rfl, rfl⟩
                · have f1b : decide ((iN : Int) < ms.length) = false := decide_eq_false (by omega)
                  have f1c : ¬ (iN : Int) < ms.length := by omega
                  by_cases f2 : tl = 0
                  · exfalso
                    have := HIL.out
                    omega
                  · have f2b : ((tl : Int) == 0) = false := beq_eq_false_iff_ne.2 (by omega)
                    have HV := Lib.hid (show G = false by rw [HGG.out]; simp [f1, f2])
                    go_wp2
                    go_meet
                    case rel => rw [HV.out]; exact ⟨rfl, rfl⟩
                -->1
              case rest =>
                obtain ⟨rfl, hwx⟩ := hcut
                subst hwx
                go_upto_if 88 with (fail)
                go_cut [7, 10, 13, 14, 15] (fun s7 s10 s13 s14 s15 wx => ∃ (s2 : St) (t0 : List (Int × Int)) (a : Nat) (T : List Int) (bs2 : List Bool), s10 = .int .i64 (cnt ms s2.bg) ∧ s14 = .nilIface ∧ s15 = .int .i64 a ∧ Hid (a < ms.length) ∧ Aside0 (Mem w w5 wx w3.heap.size ws (ndOf ms ls s2) bs2 s7 (.slice A8 s.all.length c8) s13 t0 s.all T) ∧ Hid (Inv (WvTree.Edge ls) ms (near15 ls) s2) ∧ Hid (s2.todo = t0 ++ T.map (fun v => (rd ms a, v)) ∧ s2.all = s.all ++ T.map (fun v => (rd ms a, v))) ∧ Hid (bs2.length = ms.length ∧ (∀ i, i < ms.length → bs2.getD i false = s2.bg (rd ms i)) ∧ k + 1 + mu ms ls s2 ≤ 100))
                case first =>
                  cases G with
                  | true =>
                    --<2
                    have hin : iN < ms.length := by
                      have h1 := HGG.out
                      have h2 := HIL.out
                      by_cases hx : iN < ms.length
                      · exact hx
                      · simp [hx] at h1
                        omega
                    obtain ⟨j0, hj0, hjb⟩ : ∃ j0, j0 < ms.length ∧ s.bg (rd ms j0) = false := by
                      have h1 := HGG.out
                      cases b with
                      | false => exact ⟨iN, hin, by rw [← HS.out.2.1 iN hin, ← HB.out]⟩
                      | true =>
                        simp at h1
                        have h2 := HE.out
                        simp [← h1] at h2
                        exact cnt_some (by rw [← HCN.out]; exact h2)
                    have HJ0 := Lib.hid hj0
                    have HJB := Lib.hid hjb
                    have HIN := Lib.hid hin
                    have hrem1 : Int.tmod (iN : Int) (ms.length : Int) = (iN : Int) := by rw [Int.tmod_eq_emod_of_nonneg (by omega)]; exact Int.emod_eq_of_lt (by omega) (by omega)
                    have hnz : ((ms.length : Int) == 0) = false := beq_eq_false_iff_ne.2 (by omega)
                    have hnz2 : ¬ ((ms.length : Int) = 0) := by omega
                    have hnz3 : ¬ (ms.length = 0) := by omega
                    clear hin hj0 hjb
                    go_wp2
                    go_loop [15] (fun v15 => ∃ a : Nat, v15 = .int .i64 a ∧ Hid (a < ms.length)) (fun v => if (intOf v).toNat ≤ j0 then j0 - (intOf v).toNat else j0 + ms.length - (intOf v).toNat)
                    case atStart => exact ⟨iN, rfl, HIN.out⟩
                    case round =>
                      obtain ⟨a, rfl, HA⟩ := hrel
                      have a0 : (0 : Int) ≤ a := by omega
                      have a1 : (a : Int) < ms.length := by have := HA.out; omega
                      have hbc := begun_cell HM.out.bg (i := a) (by rw [HBS.out]; exact HA.out)
                      obtain ⟨b2, hb2⟩ : ∃ b2, b2 = bs.getD a false := ⟨_, rfl⟩
                      have HB2 := Lib.hid hb2
                      rw [← hb2] at hbc
                      clear hb2
                      cases b2 with
                      | true =>
                        have hne : a ≠ j0 := by
                          intro e
                          have h1 := HS.out.2.1 a HA.out
                          rw [← HB2.out, e, HJB.out] at h1
                          cases h1
                        have HNE := Lib.hid hne
                        obtain ⟨a2, ha2⟩ : ∃ a2, a2 = (a + 1) % ms.length := ⟨_, rfl⟩
                        have HA2 := Lib.hid (show (a + 1 < ms.length ∧ a2 = a + 1) ∨ (a + 1 = ms.length ∧ a2 = 0) by
                          have := HA.out
                          by_cases hx : a + 1 < ms.length
                          · left; exact ⟨hx, by rw [ha2]; exact Nat.mod_eq_of_lt hx⟩
                          · right; have hx2 : a + 1 = ms.length := by omega
                            exact ⟨hx2, by rw [ha2, hx2]; exact Nat.mod_self _⟩)
                        have hrem2 : Int.tmod ((a : Int) + 1) (ms.length : Int) = (a2 : Int) := by rw [ha2]; exact (Int.ofNat_tmod (a + 1) ms.length).symm
                        clear hne ha2
                        go_wp2
                        go_round
                        case rel => exact ⟨a2, by go_num, by have := HA2.out; have := HNP.out; unfold Hid; omega⟩
                        case measure => exact find_step HA2.out HNE.out HA.out HJ0.out
                      | false =>
                        have HUB := Lib.hid (show s.bg (rd ms a) = false by rw [← HS.out.2.1 a HA.out, ← HB2.out])
                        have HAW := Lib.hid (show a < ws.length by rw [HWL.out]; exact HA.out)
                        obtain ⟨adp, rfl, hpc⟩ := P_at (HPW.out wc HM.out.old) (k := a) (by rw [HPS.out]; exact HA.out)
                        rw [p_at HAW.out] at hpc
                        go_wp2_with (go_at_call 8; refine (begin_calls _ (wAt ws a).lo (wAt ws a).hi _ (ndOf ms ls s a) (Inv.fine HT.out HI.out (rd_mem ms a HA.out)) (HM.out.wv.is a HAW.out) HUB.out).mono ?_; rintro e w6 ⟨v, rfl, hv, hW, hB, hKp⟩; obtain ⟨A13, c13, rfl⟩ := Kd.R_slice hv; have HM6 := Aside0.mk (HM.out.says HAW.out hKp hB hW hv); have HBL := Lib.hid (show a < bs.length by rw [HBS.out]; exact HA.out); have s1 := begun_cell HM6.out.bg HBL.out; have s2 := blk_frozen HM6.out.bg a; clear hv hW hB hKp)
                        go_meet
                        case rel =>
                          have hcb := cnt_begin (MOk.nodup HT.out.mok) (rd_mem ms a HA.out) HUB.out
                          have hmu := mu_begin HT.out HI.out (rd_mem ms a HA.out) HUB.out
                          refine ⟨begin_ (near15 ls) s (rd ms a), s.todo, a, _, bs.set a true, ?_, rfl, rfl, HA, ⟨(HM6.out.begun a).waves (fun i hi => ndOf_begin HT.out HA.out i (by rw [← HWL.out]; exact hi))⟩, HI.out.begin_ok HT.out.net (rd_mem ms a HA.out) HUB.out, ⟨rfl, rfl⟩, ?_, ?_, ?_⟩
                          · rw [show cnt ms (begin_ (near15 ls) s (rd ms a)).bg = cn + 1 from by rw [HCN.out]; exact hcb]
                            go_num
                          · rw [List.length_set]; exact HBS.out
                          · intro i hi
                            rw [set_getD bs a i HBL.out]
                            show _ = upd s.bg (rd ms a) true (rd ms i)
                            by_cases e : i = a
                            · rw [if_pos e, e]; simp [upd]
                            · rw [if_neg e, HS.out.2.1 i hi, upd_other _ _ (rd_inj HT.out.mok hi HA.out e)]
                          · have := HS.out.2.2
                            omega
                    -->2
                  | false =>
                    --<3
                    have htl : 0 < tl := by
                      have h1 := HGG.out
                      by_cases hx : tl = 0
                      · simp [hx] at h1
                      · omega
                    obtain ⟨jN, hjN⟩ : ∃ jN, jN = iN % tl := ⟨_, rfl⟩
                    have hremj : Int.tmod (iN : Int) (tl : Int) = (jN : Int) := by rw [hjN]; exact (Int.ofNat_tmod iN tl).symm
                    have hnz : ((tl : Int) == 0) = false := beq_eq_false_iff_ne.2 (by omega)
                    have hnz2 : ¬ ((tl : Int) = 0) := by omega
                    have hnz3 : ¬ (tl = 0) := by omega
                    have hjl : jN < tl := by rw [hjN]; exact Nat.mod_lt _ htl
                    have HJL := Lib.hid (show jN < s.todo.length by rw [← HTL.out]; exact hjl)
                    have j0 : (0 : Int) ≤ jN := by omega
                    have j1 : (jN : Int) < tl := by omega
                    have HC7 := Lib.hid (Kd.R_reads' (by have := HM.out.rt; rw [HTL.out] at this; exact this)).2.2
                    have HCAP := Lib.hid (Kd.R_reads' (by have := HM.out.rt; rw [HTL.out] at this; exact this)).2.1
                    obtain ⟨ad7, rfl, m0, m1⟩ := Lk_cell HC7.out HJL.out
                    obtain ⟨m, hmm⟩ : ∃ m, m = lkAt s.todo jN := ⟨_, rfl⟩
                    rw [← hmm] at m0 m1
                    have HMM := Lib.hid (show m ∈ s.todo by rw [hmm]; exact lkAt_mem _ _ HJL.out)
                    have HT1 := Lib.hid (todo_less HI.out.dn HJL.out)
                    rw [← hmm] at HT1
                    obtain ⟨x, u⟩ := m
                    simp only [] at m0 m1
                    obtain ⟨hu, hxn, hxh⟩ := HI.out.hear_facts HT.out.net HMM.out
                    have HU := Lib.hid hu
                    have HXN := Lib.hid hxn
                    have HXH := Lib.hid hxh
                    clear hjN hmm hu hxn hxh htl
                    obtain ⟨TK, hTK⟩ : ∃ TK, TK = s.todo.take jN := ⟨_, rfl⟩
                    obtain ⟨TD, hTD⟩ : ∃ TD, TD = s.todo.drop (jN + 1) := ⟨_, rfl⟩
                    have HTKL := Lib.hid (show TK.length ≤ 14 by rw [hTK, List.length_take]; have := HTL.out; omega)
                    have HTDL := Lib.hid (show TD.length ≤ 14 by rw [hTD, List.length_drop]; have := HTL.out; omega)
                    obtain ⟨AF, hfr, hCF⟩ := Msg_front HC7.out (Nat.le_of_lt HJL.out) HCAP.out
                    obtain ⟨AB, hbk, hCB⟩ := Msg_back HC7.out (show jN + 1 ≤ s.todo.length from HJL.out) HCAP.out
                    rw [← HTL.out, ← hTK] at hfr
                    rw [← HTL.out, ← hTD] at hbk
                    rw [← hTK] at hCF
                    rw [← hTD] at hCB
                    have hbk2 : ∀ W : World, (Instr.slice 34 (.slice (some ad7) tl c7) (some (.int .i64 ((jN : Int) + 1))) none none).run Try.prog W = .ok (.slice AB TD.length (c7 - (jN + 1))) W := fun W => by have := hbk W; rw [Int.natCast_add, Int.natCast_one] at this; exact this
                    have HCF := Lib.hid hCF
                    have HCB := Lib.hid hCB
                    rw [← hTK, ← hTD] at HT1
                    clear hTK hTD hCF hCB hbk
                    go_upto_region 31 with (fail)
                    obtain ⟨w0, hw0⟩ : ∃ w0, w0 = wc.alloc (.cells #[.int .i64 x, .int .i64 u] 42) := ⟨_, rfl⟩
                    rw [← hw0]
                    have HBX := Aside0.mk (show w0.heap[wc.heap.size]? = some (.cells #[.int .i64 x, .int .i64 u] 42 (0, 0)) by rw [hw0]; exact heap_alloc_new _ _)
                    have HB0 := Aside0.mk (show Below wc.heap.size wc w0 by rw [hw0]; exact below_alloc (Below.refl _ _) _)
                    clear hw0 m0 m1 hremj hnz hnz2
                    go_upto_region 33 with (first
                      | (at_builtin; refine Kd.R_append_rows kLk (w0 := w0) w0.heap.size rfl _ _ _ 42 (.agg #[.int .i64 0, .int .i64 0]) 16 rfl Try.underlying34 infoM rfl (by decide) (by omega) (.slice A19 TK.length c19) TK TD AB TD.length _ (fun _ => True) (fun _ => False) rfl rfl HO7.out (Kd.C_below HCB.out (below_step HB0.out HB7.out)) (fun x cs h => by rw [kLk_open h]; exact kLk_mkM _ _ _ x) (fun _ hk => hk.elim) (fun _ _ => trivial) HB7.out HB7.out.size (by have := HTKL.out; have := HTDL.out; omega) ?_; intro v8 w8 ho hb hg hat; obtain ⟨A20, c20, rfl⟩ := Kd.R_slice ho; have HO8 := Aside0.mk ho; have HB8 := Aside0.mk hb; clear ho hb hg hat)
                      | (at_builtin; refine Kd.R_append_rows kLk (w0 := w0) w0.heap.size rfl _ _ _ 42 (.agg #[.int .i64 0, .int .i64 0]) 16 rfl Try.underlying34 infoM rfl (by decide) (by omega) (.slice (some ⟨w0.heap.size, 0, none⟩) 0 0) [] TK AF TK.length c7 (fun _ => True) (fun _ => False) rfl rfl (lk_empty w0 _ (Nat.le_refl _) _) (Kd.C_below HCF.out (below_alloc HB0.out _)) (fun x cs h => by rw [kLk_open h]; exact kLk_mkM _ _ _ x) (fun _ hk => hk.elim) (fun _ _ => trivial) (below_alloc (Below.refl _ _) _) (by simp) (by simp only [List.length_nil]; have := HTKL.out; omega) ?_; intro v7 w7 ho hb hg hat; rw [List.nil_append] at ho; obtain ⟨A19, c19, rfl⟩ := Kd.R_slice ho; have HO7 := Aside0.mk ho; have HB7 := Aside0.mk hb; clear ho hb hg hat))
                    clear hfr hbk2
                    have HM8 := Aside0.mk ((HM.out.step HB0.out).fresh HO8.out HB8.out)
                    obtain ⟨g0, g1⟩ := P_cells (x := (0, 0)) (HGB.out w8 HM8.out.old)
                    obtain ⟨b0, b1⟩ := P_cells (x := (0, 0)) ((HB8.out.block _ (blk_lt HBX.out)).trans HBX.out)
                    go_upto_region 34 with (go_at_call 9; refine (place_calls w8 _ _ _ _ _ ms u (Kd.C_below HR.out HM8.out.below) HU.out).mono ?_; rintro e w9 ⟨a, rfl, ha, hau, hbl⟩; have HA := Lib.hid ha; have HAU := Lib.hid hau; have HM9 := Aside0.mk (HM8.out.step hbl); have HBX9 := Aside0.mk ((hbl.block _ (Nat.lt_of_lt_of_le (blk_lt HBX.out) HB8.out.size)).trans ((HB8.out.block _ (blk_lt HBX.out)).trans HBX.out)); clear ha hau hbl)
                    clear g0 g1 b0 b1
                    have a0 : (0 : Int) ≤ a := by omega
                    have a1 : (a : Int) < ms.length := by have := HA.out; omega
                    have HAW := Lib.hid (show a < ws.length by rw [HWL.out]; exact HA.out)
                    obtain ⟨adp, rfl, hpc⟩ := P_at (HPW.out w9 HM9.out.old) (k := a) (by rw [HPS.out]; exact HA.out)
                    rw [p_at HAW.out] at hpc
                    obtain ⟨b0, b1⟩ := P_cells (x := (0, 0)) HBX9.out
                    have P0 := Lib.hid hpc
                    have PL0 := Lib.hid (show (adp.add a).block < w9.heap.size ∧ ¬ In (wAt ws a).lo (wAt ws a).hi (adp.add a).block from ⟨cell_in hpc, HPO.out w9 HM9.out.old adp rfl a HAW.out⟩)
                    have X0 := Lib.hid b0
                    have XL0 := Lib.hid (show wc.heap.size < w9.heap.size ∧ ¬ In (wAt ws a).lo (wAt ws a).hi wc.heap.size from ⟨blk_lt HBX9.out, fun hc => by have := (HM.out.wv.lt (k := wc.heap.size) ⟨a, HAW.out, hc⟩).2; omega⟩)
                    clear hpc b0 b1
                    go_wp2
                    have HM9d := Aside0.mk (HM9.out.step (Below.refl _ _).drew)
                    refine wp_region_noPanic ?_
                    refine wp_region_held_drew (S := fun W => Kept w9 W (In (wAt ws a).lo (wAt ws a).hi)) (by kernel_rfl) (⟨Nat.le_refl _, fun _ _ _ => rfl⟩) (fun hHeld => ?_)
                    refine wpAnyH_take (i := 0) (v := ?_) rfl (by kernel_rfl) (by kernel_rfl) (by kernel_rfl) (fun _ _ _ h => h) (Or.inl ⟨by rfl, ?_⟩) (by assumption) ?_
                    rotate_left 1
                    · first | (intro w hSw; go_simp; done) | (intro w hSw; go_simp; with_reducible rfl)
                    try simp only [Act.put, List.getElem_toArray, List.getElem_cons_zero, List.getElem_cons_succ, List.setIfInBounds_toArray, List.set_cons_zero, List.set_cons_succ]
                    refine wpAnyH_take (i := 1) (v := ?_) rfl (by kernel_rfl) (by kernel_rfl) (by kernel_rfl) (fun _ _ _ h => h) (Or.inl ⟨by rfl, ?_⟩) (by assumption) ?_
                    rotate_left 1
                    · first | (intro w hSw; go_simp; done) | (intro w hSw; go_simp; with_reducible rfl)
                    try simp only [Act.put, List.getElem_toArray, List.getElem_cons_zero, List.getElem_cons_succ, List.setIfInBounds_toArray, List.set_cons_zero, List.set_cons_succ]
                    refine wpAnyH_take (i := 2) (v := ?_) rfl (by kernel_rfl) (by kernel_rfl) (by kernel_rfl) (fun _ _ _ h => h) (Or.inl ⟨by rfl, ?_⟩) (by assumption) ?_
                    rotate_left 1
                    · first | (intro w hSw; go_simp; done) | (intro w hSw; go_simp; with_reducible rfl)
                    try simp only [Act.put, List.getElem_toArray, List.getElem_cons_zero, List.getElem_cons_succ, List.setIfInBounds_toArray, List.set_cons_zero, List.set_cons_succ]
                    refine wpAnyH_take (i := 3) (v := ?_) rfl (by kernel_rfl) (by kernel_rfl) (by kernel_rfl) (fun _ _ _ h => h) (Or.inl ⟨by rfl, ?_⟩) (by assumption) ?_
                    rotate_left 1
                    · first | (intro w hSw; have c0 : w.cell? (adp.add a) = _ := (Kept.cellk hSw PL0.out.1 PL0.out.2).trans P0.out; go_simp; done) | (intro w hSw; have c0 : w.cell? (adp.add a) = _ := (Kept.cellk hSw PL0.out.1 PL0.out.2).trans P0.out; go_simp; with_reducible rfl)
                    try simp only [Act.put, List.getElem_toArray, List.getElem_cons_zero, List.getElem_cons_succ, List.setIfInBounds_toArray, List.set_cons_zero, List.set_cons_succ]
                    refine wpAnyH_take (i := 4) (v := ?_) rfl (by kernel_rfl) (by kernel_rfl) (by kernel_rfl) (fun _ _ _ h => h) (Or.inl ⟨by rfl, ?_⟩) (by assumption) ?_
                    rotate_left 1
                    · first | (intro w hSw; go_simp; done) | (intro w hSw; go_simp; with_reducible rfl)
                    try simp only [Act.put, List.getElem_toArray, List.getElem_cons_zero, List.getElem_cons_succ, List.setIfInBounds_toArray, List.set_cons_zero, List.set_cons_succ]
                    refine wpAnyH_take (i := 5) (v := ?_) rfl (by kernel_rfl) (by kernel_rfl) (by kernel_rfl) (fun _ _ _ h => h) (Or.inl ⟨by rfl, ?_⟩) (by assumption) ?_
                    rotate_left 1
                    · first | (intro w hSw; have c1 : w.cell? ⟨wc.heap.size, 0, none⟩ = _ := (Kept.cellk (p := ⟨wc.heap.size, 0, none⟩) hSw XL0.out.1 XL0.out.2).trans X0.out; go_simp; done) | (intro w hSw; have c1 : w.cell? ⟨wc.heap.size, 0, none⟩ = _ := (Kept.cellk (p := ⟨wc.heap.size, 0, none⟩) hSw XL0.out.1 XL0.out.2).trans X0.out; go_simp; with_reducible rfl)
                    try simp only [Act.put, List.getElem_toArray, List.getElem_cons_zero, List.getElem_cons_succ, List.setIfInBounds_toArray, List.set_cons_zero, List.set_cons_succ]
                    refine wpAnyH_ready (rs := [6]) (by kernel_rfl) (by simp) ?_
                    refine AllReadyH.cons rfl (fun K hK => ?_) AllReadyH.nil
                    go_simp
                    (go_at_call 10; refine (hear_calls _ (wAt ws a).lo (wAt ws a).hi _ (ndOf ms ls s a) x (Inv.fine HT.out HI.out (rd_mem ms a HA.out)) (HM9d.out.wv.is a HAW.out) (by show x ∈ near15 ls (rd ms a); rw [HAU.out]; exact HXN.out) (by show x ∉ s.heard (rd ms a); rw [HAU.out]; exact HXH.out)).mono ?_; rintro e w6 ⟨v, rfl, hv, hW, hB, hKp⟩; obtain ⟨A13, c13, rfl⟩ := Kd.R_slice hv; have HM6 := Aside0.mk (HM9d.out.says HAW.out hKp hB hW hv); have hHeld2 : Kept w9 w6 (In (wAt ws a).lo (wAt ws a).hi) := ⟨hKp.1, hKp.2⟩; clear hv hW hB hKp)
                    go_simp
                    refine hK.out _ _ hHeld2 (fun hHeld => ?_)
                    clear hK K
                    try simp only [Act.put, List.getElem_toArray, List.getElem_cons_zero, List.getElem_cons_succ, List.setIfInBounds_toArray, List.set_cons_zero, List.set_cons_succ]
                    refine wpAnyH_take (i := 7) (v := ?_) rfl (by kernel_rfl) (by kernel_rfl) (by kernel_rfl) (fun _ _ _ h => h) (Or.inl ⟨by rfl, ?_⟩) (by assumption) ?_
                    rotate_left 1
                    · first | (intro w hSw; go_simp; done) | (intro w hSw; go_simp; with_reducible rfl)
                    try simp only [Act.put, List.getElem_toArray, List.getElem_cons_zero, List.getElem_cons_succ, List.setIfInBounds_toArray, List.set_cons_zero, List.set_cons_succ]
                    refine wpAnyH_take (i := 8) (v := ?_) rfl (by kernel_rfl) (by kernel_rfl) (by kernel_rfl) (fun _ _ _ h => h) (Or.inl ⟨by rfl, ?_⟩) (by assumption) ?_
                    rotate_left 1
                    · first | (intro w hSw; go_simp; done) | (intro w hSw; go_simp; with_reducible rfl)
                    try simp only [Act.put, List.getElem_toArray, List.getElem_cons_zero, List.getElem_cons_succ, List.setIfInBounds_toArray, List.set_cons_zero, List.set_cons_succ]
                    refine wpAnyH_take (i := 9) (v := ?_) rfl (by kernel_rfl) (by kernel_rfl) (by kernel_rfl) (fun _ _ _ h => h) (Or.inl ⟨by rfl, ?_⟩) (by assumption) ?_
                    rotate_left 1
                    · first | (intro w hSw; go_simp; done) | (intro w hSw; go_simp; with_reducible rfl)
                    try simp only [Act.put, List.getElem_toArray, List.getElem_cons_zero, List.getElem_cons_succ, List.setIfInBounds_toArray, List.set_cons_zero, List.set_cons_succ]
                    refine wpAnyH_take (i := 10) (v := ?_) rfl (by kernel_rfl) (by kernel_rfl) (by kernel_rfl) (fun _ _ _ h => h) (Or.inl ⟨by rfl, ?_⟩) (by assumption) ?_
                    rotate_left 1
                    · first | (intro w hSw; go_simp; done) | (intro w hSw; go_simp; with_reducible rfl)
                    try simp only [Act.put, List.getElem_toArray, List.getElem_cons_zero, List.getElem_cons_succ, List.setIfInBounds_toArray, List.set_cons_zero, List.set_cons_succ]
                    refine wpAnyH_take (i := 11) (v := ?_) rfl (by kernel_rfl) (by kernel_rfl) (by kernel_rfl) (fun _ _ _ h => h) (Or.inl ⟨by rfl, ?_⟩) (by assumption) ?_
                    rotate_left 1
                    · first | (intro w hSw; go_simp; done) | (intro w hSw; go_simp; with_reducible rfl)
                    try simp only [Act.put, List.getElem_toArray, List.getElem_cons_zero, List.getElem_cons_succ, List.setIfInBounds_toArray, List.set_cons_zero, List.set_cons_succ]
                    refine wpAnyH_done (by kernel_rfl) ?_ _
                    refine NoPanic.normal ?_
                    go_wp2
                    go_meet
                    case rel =>
                      have hmu := mu_hear HT.out HI.out HMM.out HT1.out.1 HT1.out.2.1 HT1.out.2.2
                      refine ⟨hear_ (near15 ls) s x (rd ms a) (TK ++ TD), TK ++ TD, a, _, bs, ?_, rfl, rfl, HA, ⟨by have h9 := HM6.out.waves (fun i hi => ndOf_hear HT.out HA.out x (TK ++ TD) i (by rw [← HWL.out]; exact hi)); rw [show (TK ++ TD).length = TK.length + TD.length from List.length_append] at h9; exact h9⟩, ?_, ⟨rfl, rfl⟩, HBS.out, ?_, ?_⟩
                      · rw [HCN.out]
                        rfl
                      · rw [HAU.out]
                        exact HI.out.hear_ok HT.out.net HMM.out HT1.out.1 HT1.out.2.1
                      · exact HS.out.2.1
                      · rw [HAU.out]
                        have := HS.out.2.2
                        omega
                    -->3
                case rest =>
                  obtain ⟨s2, t0, a, T, bs2, rfl, rfl, rfl, HA, HM2, HI2, HTA, HS2⟩ := hcut
                  have a0 : (0 : Int) ≤ a := by omega
                  have a1 : (a : Int) < ms.length := by have := HA.out; omega
                  obtain ⟨A13, c13, rfl⟩ := Kd.R_slice HM2.out.rn
                  have HAN := Lib.hid HI2.out.an
                  have HALL2 := Lib.hid (all_len HT.out HI2.out)
                  obtain ⟨c2, hc2⟩ : ∃ c2, c2 = cnt ms s2.bg := ⟨_, rfl⟩
                  have HC2 := Lib.hid hc2
                  have hc2I : (c2 : Int) ≤ ms.length := by have := cnt_le ms s2.bg; omega
                  obtain ⟨u, hu⟩ : ∃ u, u = rd ms a := ⟨_, rfl⟩
                  have HU := Lib.hid hu
                  rw [← hu] at HTA
                  rw [← hc2]
                  have htl13 : (T.length : Int) ≤ 14 := by
                    have h1 := HALL2.out
                    rw [HTA.out.2] at h1
                    simp only [List.length_append, List.length_map] at h1
                    have := HLS.out
                    have := HT.out.m8
                    omega
                  clear hc2 hu HM HI
                  go_wp2
                  go_loopw [7, 8, 150] (fun v7 v8 v150 wr => ∃ q : Nat, v150 = .int .i64 q ∧ q ≤ T.length ∧ Aside0 (Mem w w5 wr w3.heap.size ws (ndOf ms ls s2) bs2 v7 v8 (.slice A13 T.length c13) (t0 ++ (T.take q).map (fun v => (u, v))) (s.all ++ (T.take q).map (fun v => (u, v))) T)) (fun _ _ v _ => T.length - (intOf v).toNat)
                  case atStart => exact ⟨0, rfl, Nat.zero_le _, by rw [List.take_zero, List.map_nil, List.append_nil, List.append_nil]; exact HM2⟩
                  case round =>
                    obtain ⟨q, rfl, hq, HMQ⟩ := hrel
                    by_cases hlt : q < T.length
                    · --<4
                      have HLT := Lib.hid hlt
                      have q0 : (0 : Int) ≤ q := by omega
                      have q1 : (q : Int) < T.length := by omega
                      obtain ⟨td, htd⟩ : ∃ td, td = t0 ++ (T.take q).map (fun v => (u, v)) := ⟨_, rfl⟩
                      obtain ⟨al, hal⟩ : ∃ al, al = s.all ++ (T.take q).map (fun v => (u, v)) := ⟨_, rfl⟩
                      have HTD := Lib.hid htd
                      have HAL3 := Lib.hid hal
                      rw [← htd, ← hal] at HMQ
                      have HALL := Lib.hid (show al.length ≤ 14 ∧ td.length ≤ 100 by
                        have h1 := HALL2.out
                        have h2 := HTA.out
                        have h3 := HS2.out.2.2
                        have h4 := HLS.out
                        have h5 := HT.out.m8
                        unfold mu at h3
                        rw [h2.2] at h1
                        rw [h2.1] at h3
                        simp only [List.length_append, List.length_map] at h1 h3
                        rw [hal, htd]
                        simp only [List.length_append, List.length_map, List.length_take]
                        omega)
                      have hal14 : (al.length : Int) ≤ 14 := by have := HALL.out.1; omega
                      obtain ⟨A7, c7, rfl⟩ := Kd.R_slice HMQ.out.rt
                      obtain ⟨A8', c8', rfl⟩ := Kd.R_slice HMQ.out.ra
                      have HC13 := Lib.hid (Kd.R_reads' HMQ.out.rn).2.2
                      obtain ⟨ad13, rfl, hct⟩ := C_cell HC13.out hlt
                      obtain ⟨tv, htv⟩ : ∃ tv, tv = rd T q := ⟨_, rfl⟩
                      rw [← htv] at hct
                      have HTV := Lib.hid htv
                      have HNEW := Lib.hid (show (u, tv) ∉ al by
                        have h1 := HAN.out
                        rw [HTA.out.2, ← List.take_append_drop q T, List.map_append, ← List.append_assoc] at h1
                        rw [hal]
                        intro hc
                        refine (List.nodup_append.1 h1).2.2 _ hc _ ?_ rfl
                        rw [List.drop_eq_getElem_cons hlt, List.map_cons, htv, rd_get T q hlt]
                        exact List.mem_cons_self)
                      have hmem := P_cells (x := (0, 0)) (HGB.out wr HMQ.out.old)
                      obtain ⟨g0, g1⟩ := hmem
                      obtain ⟨adm, rfl, hcm⟩ := C_cell (Kd.C_below HR.out HMQ.out.below) HA.out
                      rw [← HU.out] at hcm
                      clear htd hal htv hlt
                      go_upto_region 41 with (fail)
                      obtain ⟨wb, hwb⟩ : ∃ wb, wb = wr.alloc (.cells #[.int .i64 u, .int .i64 tv] 42) := ⟨_, rfl⟩
                      rw [← hwb]
                      have HBM := Aside0.mk (show wb.heap[wr.heap.size]? = some (.cells #[.int .i64 u, .int .i64 tv] 42 (0, 0)) by rw [hwb]; exact heap_alloc_new _ _)
                      have HMB := Aside0.mk (show Mem w w5 wb w3.heap.size ws (ndOf ms ls s2) bs2 (.slice A7 td.length c7) (.slice A8' al.length c8') (.slice (some ad13) T.length c13) td al T by rw [hwb]; exact HMQ.out.step (below_alloc (Below.refl _ _) _))
                      have HOB := Lib.hid (show wr.heap.size < wb.heap.size from blk_lt HBM.out)
                      have HNT := Lib.hid (show (∀ z, (Value.slice A7 td.length c7).ownBlock = some z → z ≠ wr.heap.size) ∧ (∀ z, (Value.slice A8' al.length c8').ownBlock = some z → z ≠ wr.heap.size) from ⟨fun z hz => by have := (R_own_lt HMQ.out.rt hz).2; omega, fun z hz => by have := (R_own_lt HMQ.out.ra hz).2; omega⟩)
                      clear hwb g0 g1 hcm hct
                      go_wp2
                      go_loopw [163] (fun v163 wr => ∃ z : Nat, v163 = .int .i64 z ∧ z ≤ al.length ∧ Aside0 (Below wb.heap.size wb wr)) (fun v _ => al.length - (intOf v).toNat)
                      case atStart => exact ⟨0, rfl, Nat.zero_le _, ⟨Below.refl _ _⟩⟩
                      case round =>
                        obtain ⟨z, rfl, hz, HBZ⟩ := hrel
                        by_cases hlt : z < al.length
                        · have HLZ := Lib.hid hlt
                          have z0 : (0 : Int) ≤ z := by omega
                          have z1 : (z : Int) < al.length := by omega
                          have HC8 := Lib.hid (Kd.C_below (Kd.R_reads' HMB.out.ra).2.2 HBZ.out)
                          obtain ⟨ad8, rfl, m0, m1⟩ := Lk_cell HC8.out hlt
                          obtain ⟨m, hm9⟩ : ∃ m, m = lkAt al z := ⟨_, rfl⟩
                          have HNQ := Lib.hid (show m ≠ (u, tv) by rw [hm9]; exact fun e => HNEW.out (e ▸ lkAt_mem al z hlt))
                          rw [← hm9] at m0 m1
                          obtain ⟨x, y⟩ := m
                          simp only [] at m0 m1
                          have hne : ∀ W : World, (binOp .eql 42 (.agg #[.int .i64 x, .int .i64 y]) (.agg #[.int .i64 u, .int .i64 tv])).run Try.prog W = .ok (.bool false) W := fun W => by
                            rw [msg_eql, show ((x == u) && (y == tv)) = false from by
                              rw [Bool.and_eq_false_iff]
                              by_cases e : x = u
                              · right
                                exact beq_eq_false_iff_ne.2 (fun e2 => HNQ.out (by rw [e, e2]))
                              · left
                                exact beq_eq_false_iff_ne.2 e]
                          clear hlt hm9
                          go_upto_region 44 with (fail)
                          obtain ⟨w0, hw0⟩ : ∃ w0, w0 = wr.alloc (.cells #[.int .i64 x, .int .i64 y] 42) := ⟨_, rfl⟩
                          rw [← hw0]
                          have HX0 := Aside0.mk (show w0.heap[wr.heap.size]? = some (.cells #[.int .i64 x, .int .i64 y] 42 (0, 0)) by rw [hw0]; exact heap_alloc_new _ _)
                          have HB0 := Aside0.mk (show Below wb.heap.size wb w0 by rw [hw0]; exact below_alloc HBZ.out _)
                          clear hw0 m0 m1
                          obtain ⟨b0, b1⟩ := P_cells (x := (0, 0)) ((HB0.out.block _ HOB.out).trans HBM.out)
                          obtain ⟨d0, d1⟩ := P_cells (x := (0, 0)) HX0.out
                          go_wp2
                          go_roundw
                          case rel => exact ⟨z + 1, by go_num, by have := HLZ.out; omega, HB0⟩
                          case measure => have := HLZ.out; simp [intOf]; omega
                        · have z1 : ¬ (z : Int) < al.length := by omega
                          have HMZ := Aside0.mk (HMB.out.step HBZ.out)
                          have HBM2 := Aside0.mk ((HBZ.out.block _ HOB.out).trans HBM.out)
                          clear hlt
                          go_upto_region 47 with (fail)
                          obtain ⟨b0, b1⟩ := P_cells (x := (0, 0)) HBM2.out
                          clear z1
                          go_wp2_with (first
                            | (at_builtin; refine Kd.R_append kLk (w0 := w4) (W := w4) w5.heap.size rfl _ _ 34 42 (.agg #[.int .i64 0, .int .i64 0]) 16 rfl Try.underlying34 infoM rfl (by decide) (by omega) _ al (u, tv) [.int .i64 u, .int .i64 tv] (fun _ => True) (fun _ => False) rfl rfl (kLk_mkM _ _ _ (u, tv)) (fun _ hk => hk.elim) (fun _ _ => trivial) (by exact HM4.out.ra) (Below.refl _ _) (HM4.out.size) (by have := HALL.out; omega) ?_; intro v5 w5' ho hb hg hat; have HM5 := Aside0.mk (HM4.out.appA ho hb hg hat); clear ho hb hg hat)
                            | (at_builtin; refine Kd.R_append kLk (w0 := wr) (W := wr) w5.heap.size rfl _ _ 34 42 (.agg #[.int .i64 0, .int .i64 0]) 16 rfl Try.underlying34 infoM rfl (by decide) (by omega) _ td (u, tv) [.int .i64 u, .int .i64 tv] (fun _ => True) (fun _ => False) rfl rfl (kLk_mkM _ _ _ (u, tv)) (fun _ hk => hk.elim) (fun _ _ => trivial) (by exact HMZ.out.rt) (Below.refl _ _) (HMZ.out.size) (by have := HALL.out; omega) ?_; intro v4 w4 ho hb hg hat; have HM4 := Aside0.mk (HMZ.out.appT ho hb hg hat); have HBM4 := Aside0.mk ((hg.block _ (blk_lt HBM2.out) (fun e => HNT.out.1 _ e.symm rfl)).trans HBM2.out); clear ho hb hg hat; obtain ⟨d0, d1⟩ := P_cells (x := (0, 0)) HBM4.out))
                          go_roundw
                          case rel =>
                            refine ⟨q + 1, by go_num, by have := HLT.out; omega, ⟨?_⟩⟩
                            rw [take_rd T q HLT.out, List.map_append, ← List.append_assoc, ← List.append_assoc, ← HTD.out, ← HAL3.out]
                            have h9 := HM5.out
                            rw [HTV.out] at h9
                            exact h9
                          case measure => have := HLT.out; simp [intOf]; omega
                      -->4
                    · --<5
                      have q1 : ¬ (q : Int) < T.length := by omega
                      have HTQ := Lib.hid (show t0 ++ (T.take q).map (fun v => (u, v)) = s2.todo ∧ s.all ++ (T.take q).map (fun v => (u, v)) = s2.all by
                        rw [List.take_of_length_le (by omega)]
                        exact ⟨HTA.out.1.symm, HTA.out.2.symm⟩)
                      have HMF := Aside0.mk (show Mem w w5 wr w3.heap.size ws (ndOf ms ls s2) bs2 u7 u8 (.slice none 0 0) s2.todo s2.all [] by have := HMQ.out.quit; rw [HTQ.out.1, HTQ.out.2] at this; exact this)
                      have HAW := Lib.hid (show a < ws.length by rw [HWL.out]; exact HA.out)
                      obtain ⟨adp, rfl, hpc⟩ := P_at (HPW.out wr HMF.out.old) (k := a) (by rw [HPS.out]; exact HA.out)
                      rw [p_at HAW.out] at hpc
                      obtain ⟨dn, hdn⟩ : ∃ dn : Bool, dn = ((ndOf ms ls s2 a).bg && (ndOf ms ls s2 a).heard.length == (ndOf ms ls s2 a).near.length) := ⟨_, rfl⟩
                      have HDN := Lib.hid hdn
                      have HFI := Lib.hid (Inv.fine HT.out HI2.out (rd_mem ms a HA.out))
                      clear hlt hdn
                      cases dn with
                      | true =>
                        have hfull := not_done HT.out HI2.out HA.out HDN.out.symm
                        have hcf : decide ((c2 : Int) < ms.length) = false := decide_eq_false (by rw [HC2.out]; omega)
                        have hcf2 : ¬ c2 < ms.length := by rw [HC2.out]; omega
                        clear hfull
                        go_wp2_with (go_at_call 11; refine (done_calls _ (wAt ws a).lo (wAt ws a).hi _ (ndOf ms ls s2 a) HFI.out (HMF.out.wv.is a HAW.out)).mono ?_; rintro e w6 ⟨rfl, ⟨⟨n6, rfl⟩⟩⟩; rw [← HDN.out])
                        go_roundw
                        case rel => exact ⟨s2, k + 1, bs2, by rw [HC2.out], by go_num, ⟨HMF.out.drew n6⟩, HI2, HS2.out.1, HS2.out.2.1, by have := HS2.out.2.2; omega⟩
                        case measure => have := HK.out; simp [intOf]; omega
                      | false =>
                        go_wp2_with (go_at_call 11; refine (done_calls _ (wAt ws a).lo (wAt ws a).hi _ (ndOf ms ls s2 a) HFI.out (HMF.out.wv.is a HAW.out)).mono ?_; rintro e w6 ⟨rfl, ⟨⟨n6, rfl⟩⟩⟩; rw [← HDN.out])
                        go_roundw
                        case rel => exact ⟨s2, k + 1, bs2, by rw [HC2.out], by go_num, ⟨HMF.out.drew n6⟩, HI2, HS2.out.1, HS2.out.2.1, by have := HS2.out.2.2; omega⟩
                        case measure => have := HK.out; simp [intOf]; omega
                      -->5
  · have HNT := Lib.hid hT
    clear hT
    go_wp2_with (first
      | (go_at_call 5; refine (awake_calls _).mono ?_; rintro e w1 ⟨rfl, hb⟩; have H1 := Aside0.mk (below_step HBW.out hb); have HG1 := Aside0.mk ((hb.block _ (blk_lt HBG.out)).trans HBG.out); clear hb; obtain ⟨g2, g3⟩ := P_cells (x := (0, 0)) HG1.out)
      | (go_at_call 6; refine (check15_calls _ _ _ _ _ ms ls (Kd.C_below HR.out H1.out) (Kd.C_below HL.out H1.out)).mono ?_; rintro e w2 ⟨b, X, n, cc2, cd, rfl, hb, hbl⟩; obtain rfl := (show b = true by cases b with | false => exact absurd (hb.1 rfl) HNT.out | true => rfl); have H2 := Aside0.mk (below_step H1.out hbl); have HG2 := Aside0.mk ((hbl.block _ (blk_lt HG1.out)).trans HG1.out); clear hb hbl; obtain ⟨g4, g5⟩ := P_cells (x := (0, 0)) HG2.out))
    go_ret
    exact ⟨rfl, H2.out⟩
end Go.Proofs.Ytpnokpoikhpiiaa
