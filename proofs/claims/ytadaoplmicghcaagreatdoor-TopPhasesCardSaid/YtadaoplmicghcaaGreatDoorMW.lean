/- The walk of TopPhases. -/
import Derived.Test.YtadaoplmicghcaaGreatDoorMP
import Derived.Test.YtadaoplmicghcaaGreatDoorMX
import Derived.Deep.DeepCutAuto
import Derived.Deep.RegionHeld3
import Derived.Deep.CutBlock
namespace Go.Proofs.YtadaoplmicghcaaGreatDoor.Ph
open Go.RowKit Go.Maps Go.Proofs.YtadaoplmicghcaaGreatDoorW.PrintWords Go.Proofs.YtadaoplmicghcaaGreatDoorW.PrintLast Go.Proofs.YtadaoplmicghcaaGreatDoorW.PrintMore
open WvTree WvSim
attribute [local go_sem] max2_int min2_int max_two min_two
set_option linter.unusedVariables false
set_option linter.unusedSimpArgs false
theorem fieldE (b : Bool) (A : Option Addr) (n c : Nat) (cd : Int) (w : World) : (Instr.field 30 (.agg #[.bool b, .slice A n c, .int .i64 cd]) 0).run Tryz.prog w = .ok (.bool b) w := by kernel_rfl
def st0 : St := { heard := fun _ => [], told := fun _ => [], bg := fun _ => false, todo := [], all := [] }
theorem reps (n : Nat) : ((List.replicate n false).map Value.bool).toArray = Array.replicate n (.bool false) := by simp
theorem own_of_row {α : Type} {dd : Kd α} {e base n c : Nat} {ok : Nat → Prop} {w : World} {A : Option Addr} {xs : List α} (h : dd.R e w base ok (.slice A n c) xs) {ad : Addr} (he : A = some ad) (hn : 0 < xs.length) : (Value.slice A n c).ownBlock = some ad.block := by
  obtain ⟨inner, ho⟩ := Kd.R_own h
  have hl := (Kd.R_reads' h).1
  rcases ho.2 with ⟨_, h0⟩ | ⟨g, cap, _, he2, hb, _⟩
  · omega
  · subst he
    injection he2 with h1 _ _
    injection h1 with h1
    subst h1
    simp [Value.ownBlock]
theorem add_block (ad : Addr) (a : Nat) : (ad.add a).block = ad.block := by
  unfold Addr.add
  split <;> rfl
def mu (ms : List Int) (ls : List (Int × Int)) (s : St) : Nat := (ms.length - cnt ms s.bg) + s.todo.length + 2 * (2 * ls.length - s.all.length)
theorem begun_cell {W : World} {bb i : Nat} {bs : List Bool} {t : Nat} (h : W.heap[bb]? = some (.cells (bs.map Value.bool).toArray t (0, 0))) (hi : i < bs.length) : W.cell? ⟨bb, i, none⟩ = some (.bool (bs.getD i false)) := by
  rw [blk_cell h i]
  simp [List.getD_eq_getElem?_getD, hi]
theorem p_at {ws : List WI} {i : Nat} (h : i < ws.length) : (ws.map WI.p).getD i 0 = (wAt ws i).p := by
  simp [wAt, List.getD_eq_getElem?_getD, h]
theorem set_getD (bs : List Bool) (a i : Nat) (h : a < bs.length) : (bs.set a true).getD i false = if i = a then true else bs.getD i false := by
  by_cases e : i = a
  · subst e; simp [List.getD_eq_getElem?_getD, h]
  · rw [if_neg e]
    simp only [List.getD_eq_getElem?_getD, List.getElem?_set]
    rw [if_neg (fun h : a = i => e h.symm)]
theorem mu_begin {ms : List Int} {ls : List (Int × Int)} {s : St} (T : IsTree ms ls) (h : Inv (WvTree.Edge ls) ms (near15 ls) s) {u : Int} (hu : u ∈ ms) (hb : s.bg u = false) : mu ms ls (begin_ (near15 ls) s u) + 1 ≤ mu ms ls s := by
  have h1 := all_len T (h.begin_ok T.net hu hb)
  have h2 := cnt_begin (MOk.nodup T.mok) hu hb
  have h3 := cnt_le ms (upd s.bg u true)
  simp only [begin_, List.length_append, List.length_map] at h1
  simp only [mu, begin_, List.length_append, List.length_map]
  omega
theorem mu_hear {ms : List Int} {ls : List (Int × Int)} {s : St} (T : IsTree ms ls) (h : Inv (WvTree.Edge ls) ms (near15 ls) s) {x u : Int} {t1 : List (Int × Int)} (hm : (x, u) ∈ s.todo) (h1 : t1.Nodup) (h2 : ∀ m, m ∈ t1 ↔ m ∈ s.todo ∧ m ≠ (x, u)) (hl : t1.length + 1 = s.todo.length) : mu ms ls (hear_ (near15 ls) s x u t1) + 1 ≤ mu ms ls s := by
  have h3 := all_len T (h.hear_ok T.net hm h1 h2)
  simp only [hear_, List.length_append, List.length_map] at h3
  simp only [mu, hear_, List.length_append, List.length_map]
  omega
theorem todo_less {l : List (Int × Int)} (hn : l.Nodup) {j : Nat} (hj : j < l.length) : (l.take j ++ l.drop (j + 1)).Nodup ∧ (∀ m, m ∈ l.take j ++ l.drop (j + 1) ↔ m ∈ l ∧ m ≠ lkAt l j) ∧ (l.take j ++ l.drop (j + 1)).length + 1 = l.length := by
  have e : l = l.take j ++ (lkAt l j :: l.drop (j + 1)) := by
    rw [lkAt_get l j hj, ← List.drop_eq_getElem_cons hj, List.take_append_drop]
  have hn2 := hn
  rw [e] at hn2
  have hp := (List.perm_middle (a := lkAt l j) (l₁ := l.take j) (l₂ := l.drop (j + 1)))
  have hn3 := List.nodup_cons.1 (hp.nodup_iff.1 hn2)
  refine ⟨hn3.2, fun m => ?_, ?_⟩
  · constructor
    · intro h
      refine ⟨?_, fun hx => hn3.1 (hx ▸ h)⟩
      rw [e]
      rcases List.mem_append.1 h with h | h
      · exact List.mem_append_left _ h
      · exact List.mem_append_right _ (List.mem_cons_of_mem _ h)
    · rintro ⟨h, hx⟩
      rw [e] at h
      rcases List.mem_append.1 h with h | h
      · exact List.mem_append_left _ h
      · rcases List.mem_cons.1 h with h | h
        · exact absurd h hx
        · exact List.mem_append_right _ h
  · simp only [List.length_append, List.length_take, List.length_drop]
    omega
theorem Kept.cellk {w W : World} {S : Nat → Prop} (h : Kept w W S) {p : Addr} (h1 : p.block < w.heap.size) (h2 : ¬ S p.block) : W.cell? p = w.cell? p := World.cell?_of_block (w := w) (h.2 _ h1 h2)
theorem lk_empty (w : World) (base : Nat) (hb : base ≤ w.heap.size) (t : TypeId) : kLk.R t (w.alloc (.cells #[] t)) base (fun _ => True) (.slice (some ⟨w.heap.size, 0, none⟩) 0 0) [] := by
  refine ⟨fun _ _ => trivial, [], ?_, Reps.none _ _⟩
  have h2 := World.ownsRow_lit (base := base) (e := t) (size := 2) w #[] 0 hb (by decide) (by simp)
  have h3 : (w.alloc (.cells #[] t)).ownsRow base t 2 (.slice (some ⟨w.heap.size, 0, none⟩) 0 0) 0 [] := by simpa using h2
  exact h3
theorem mu_start {ms : List Int} {ls : List (Int × Int)} (T : IsTree ms ls) : mu ms ls st0 ≤ 36 := by
  have h1 := T.len
  have h2 := T.m8
  simp [mu, st0]
  omega
theorem dn_start (ls : List (Int × Int)) (u : Int) : dn ls st0 u = false := rfl
theorem up_of {ms : List Int} {ls : List (Int × Int)} (T : IsTree ms ls) : Cm.Up ms := fun j hj => by
  have h := T.mok j hj
  exact ⟨by have := h.1; omega, h.2.1, h.2.2⟩
theorem begin_ask {ms : List Int} {ls : List (Int × Int)} (T : IsTree ms ls) : Cm.Dk.new.beginR ms = (1, 0, ask ms (dn ls st0)) := by
  rw [Cm.Dk.beginR_ok rfl T.ne (up_of T), ask_begin T.ne]
  rfl
set_option maxRecDepth 100000 in
set_option maxHeartbeats 8000000 in
theorem phases_walk (w : World) (A B CA : Option Addr) (c d cc : Nat) (ms : List Int) (ls : List (Int × Int)) (ch : List Int) (stop : Int) (hr : (Kd.int .i64).C w A ms.length ms) (hl : kLk.C w B ls.length ls) (hch : (Kd.int .i64).C w CA ch.length ch) :
    Calls Tryz.prog 3 #[.agg #[.slice A ms.length c, .slice B ls.length d], .slice CA ch.length cc, .int .i64 stop] w fun e w' => e = .returned (.bool true) ∧ Below w.heap.size w w' := by
  have HR := Lib.hid hr
  have HL := Lib.hid hl
  have HCH := Lib.hid hch
  have hm : (ms.length : Int) ≤ 9223372036854775807 := by have : ms.length ≤ 9223372036854775807 := hr.2.1; omega
  have hm2 : (ls.length : Int) ≤ 9223372036854775807 := by have : ls.length ≤ 9223372036854775807 := hl.2.1; omega
  have hm3 : (ch.length : Int) ≤ 9223372036854775807 := by have : ch.length ≤ 9223372036854775807 := hch.2.1; omega
  clear hr hl hch
  have hfd := fieldE
  go_enter Tryz.func3, Tryz.ntmps3
  go_upto_region 1 with (fail)
  obtain ⟨wz, hwz⟩ : ∃ wz, wz = w.alloc (.cells #[.slice A ms.length c, .slice B ls.length d] 25) := ⟨_, rfl⟩
  rw [← hwz]
  have HBG := Aside0.mk (show wz.heap[w.heap.size]? = some (.cells #[.slice A ms.length c, .slice B ls.length d] 25 (0, 0)) by rw [hwz]; exact heap_alloc_new _ _)
  have HBW := Aside0.mk (show Below w.heap.size w wz by rw [hwz]; exact below_alloc (Below.refl _ _) _)
  clear hwz
  by_cases hT : IsTree ms ls
  · have HT := Lib.hid hT
    clear hT
    by_cases hc : (ch.length : Int) > 100
    · have hcb : decide ((ch.length : Int) > 100) = true := by simpa using hc
      clear hc
      go_wp2_with (first
        | (go_at_call 4; refine (Aw.awake11_calls _).mono ?_; rintro e w1 ⟨rfl, hb⟩; have H1 := Aside0.mk (below_step HBW.out hb); have HG1 := Aside0.mk ((hb.block _ (blk_lt HBG.out)).trans HBG.out); clear hb; obtain ⟨g2, g3⟩ := P_cells (x := (0, 0)) HG1.out)
        | (go_at_call 5; refine (check15_calls _ _ _ _ _ ms ls (Kd.C_below HR.out H1.out) (Kd.C_below HL.out H1.out)).mono ?_; rintro e w2 ⟨b, X, n, cc2, cd, rfl, hb, hbl⟩; obtain rfl := hb.2 HT.out; have H2 := Aside0.mk (below_step H1.out hbl); have HG2 := Aside0.mk ((hbl.block _ (blk_lt HG1.out)).trans HG1.out); clear hb hbl; obtain ⟨g4, g5⟩ := P_cells (x := (0, 0)) HG2.out))
      go_ret
      exact ⟨rfl, H2.out⟩
    · have hcb : decide ((ch.length : Int) > 100) = false := by simpa using hc
      have hch100 : (ch.length : Int) ≤ 100 := by omega
      have hm8 : (ms.length : Int) ≤ 8 := by have := HT.out.m8; omega
      clear hc
      go_upto_region 8 with (first
        | (go_at_call 4; refine (Aw.awake11_calls _).mono ?_; rintro e w1 ⟨rfl, hb⟩; have H1 := Aside0.mk (below_step HBW.out hb); have HG1 := Aside0.mk ((hb.block _ (blk_lt HBG.out)).trans HBG.out); clear hb; obtain ⟨g2, g3⟩ := P_cells (x := (0, 0)) HG1.out)
        | (go_at_call 5; refine (check15_calls _ _ _ _ _ ms ls (Kd.C_below HR.out H1.out) (Kd.C_below HL.out H1.out)).mono ?_; rintro e w2 ⟨b, X, n, cc2, cd, rfl, hb, hbl⟩; obtain rfl := hb.2 HT.out; have H2 := Aside0.mk (below_step H1.out hbl); have HG2 := Aside0.mk ((hbl.block _ (blk_lt HG1.out)).trans HG1.out); clear hb hbl; obtain ⟨g4, g5⟩ := P_cells (x := (0, 0)) HG2.out))
      clear hfd g2 g3 g4 g5 hcb
      go_loopw [8, 51] (fun v8 v51 wr => ∃ (k : Nat) (ws : List WI), v51 = .int .i64 k ∧ k ≤ ms.length ∧ ws.length = k ∧ Aside0 (kP.R 35 wr w2.heap.size (fun _ => True) v8 (ws.map WI.p)) ∧ Aside0 (Waves wr w2.heap.size ws (fun i => ⟨near15 ls (rd ms i), [], [], false⟩)) ∧ Hid (∀ k, v8.ownBlock = some k → ¬ InW ws k) ∧ Aside0 (Below w2.heap.size w2 wr)) (fun _ v _ => ms.length - (intOf v).toNat)
      case atStart => exact ⟨0, [], rfl, Nat.zero_le _, rfl, ⟨Kd.R_nil _ _ _ _ _⟩, ⟨⟨fun i hi => by simp at hi, fun i hi => by simp at hi, fun i hi => by simp at hi, fun i j _ hj => by simp at hj⟩⟩, (fun k hk => by simp [Value.ownBlock] at hk), ⟨Below.refl _ _⟩⟩
      case round =>
        obtain ⟨k, ws, rfl, hk, hwl, HK, HWV, HOW, HB⟩ := hrel
        by_cases hlt : k < ms.length
        · as_aux_lemma =>
            have HRB := Lib.hid (Kd.C_below HR.out (below_step H2.out HB.out))
            have HLB := Lib.hid (Kd.C_below HL.out (below_step H2.out HB.out))
            have hrb := HRB.out
            have hA : ∃ ad, A = some ad ∧ wr.cell? (ad.add k) = some (.int .i64 (rd ms k)) := C_cell hrb hlt
            obtain ⟨ad, rfl, hc⟩ := hA
            obtain ⟨u, hu⟩ : ∃ u, u = rd ms k := ⟨_, rfl⟩
            rw [← hu] at hc
            have HU := Lib.hid hu
            have HUM := Lib.hid (show u ∈ ms by rw [hu]; exact rd_mem ms k hlt)
            have HRI := Lib.hid (HT.out.rises u)
            have HNL := Lib.hid (length_small HRI.out.nodup HRI.out.bound)
            have k0 : (0 : Int) ≤ k := by omega
            have k1 : (k : Int) < ms.length := by omega
            have HLT := Lib.hid hlt
            have HWL := Lib.hid hwl
            obtain ⟨g0, g1⟩ := P_cells (x := (0, 0)) ((HB.out.block _ (blk_lt HG2.out)).trans HG2.out)
            obtain ⟨N, hN⟩ : ∃ N, N = near15 ls u := ⟨_, rfl⟩
            have HN := Lib.hid hN
            rw [← hN] at HRI HNL
            clear hlt hu hwl hrb hN
            go_wp2_with (first
              | (go_at_call 6; refine (near2_calls wr _ _ _ _ ms ls u HRB.out HLB.out HT.out HUM.out).mono ?_; rintro en w3 ⟨v1, X3, n3, cc3, cd3, rfl, hR, hbl⟩; rw [← HN.out] at hR; obtain ⟨A1, c1, rfl⟩ := Kd.R_slice hR; have HC1 := Lib.hid (Kd.R_reads' hR).2.2; have H3 := Aside0.mk hbl; clear hR hbl)
              | (go_at_call 7; refine (new_calls _ _ _ N (Kd.C_alloc HC1.out _) (by have := HNL.out; omega)).mono ?_; intro en w4 hnp; obtain ⟨p, rfl, hW, hbl⟩ := hnp.1 HRI.out; have HW2 := Aside0.mk hW; have HLO := Lib.hid (show wr.heap.size ≤ (w3.alloc (.cells #[.bool false, .slice X3 n3 cc3, .int .i64 cd3] 30)).heap.size by rw [alloc_sz]; have := H3.out.size; omega); have HBR := Aside0.mk (show Below wr.heap.size wr w4 from below_step (below_alloc H3.out _) hbl); clear hnp hW hbl)
              | (at_builtin; refine Kd.R_append kP (w0 := w2) (W := w4) w2.heap.size rfl _ _ 32 35 (.pointer none) 8 rfl Tryz.underlying32 infoP rfl (by decide) (by omega) _ (ws.map WI.p) p [.pointer (some ⟨p, 0, none⟩)] (fun _ => True) (fun _ => False) rfl rfl rfl (fun _ hk => hk.elim) (fun _ _ => trivial) (by exact Kd.R_below HK.out HBR.out) (below_step HB.out HBR.out) (Nat.le_trans HB.out.size HBR.out.size) (by simp; have := HWL.out; have := HLT.out; have := HT.out.m8; omega) ?_; intro v3 w5 ho hb hg hat; have HO := Aside0.mk ho; have HB3 := Aside0.mk hb; have HGR := Aside0.mk hg; have HAT := Lib.hid hat; clear ho hb hg hat))
            clear g0 g1 hc
            go_roundw
            case rel =>
              have hwv := HWV.out.below HBR.out
              have hold : ∀ q, u8.ownBlock = some q → q < wr.heap.size := fun q hq => (R_own_lt HK.out hq).2
              have hsn : Waves w4 w2.heap.size (ws ++ [⟨p, _, w4.heap.size⟩]) (fun i => ⟨near15 ls (rd ms i), [], [], false⟩) := hwv.snoc (x := ⟨p, _, w4.heap.size⟩) (by show IsWave _ _ _ ⟨near15 ls (rd ms ws.length), [], [], false⟩ _; rw [HWL.out, ← HU.out, ← HN.out]; exact HW2.out) (Nat.le_trans HB.out.size HLO.out) (Nat.le_refl _) (fun i hi => Nat.le_trans (HWV.out.hi i hi) HLO.out)
              have hnot : ∀ q, u8.ownBlock = some q → ¬ InW (ws ++ [(⟨p, (w3.alloc (.cells #[.bool false, .slice X3 n3 cc3, .int .i64 cd3] 30)).heap.size, w4.heap.size⟩ : WI)]) q := by
                rintro q hq ⟨i, hi, hin⟩
                by_cases e : i < ws.length
                · rw [wAt_app_old e] at hin
                  exact HOW.out q hq ⟨i, e, hin⟩
                · have e2 : i = ws.length := by simp at hi; omega
                  subst e2
                  rw [wAt_app_new] at hin
                  have := hold q hq
                  have := hin.1
                  have := HLO.out
                  simp only at *
                  omega
              refine ⟨k + 1, ws ++ [⟨p, _, w4.heap.size⟩], by go_num, by have := HLT.out; omega, by simp [HWL.out], ⟨by rw [List.map_append]; exact HO.out⟩, ⟨hsn.move (fun q hq => HGR.out.block q (hsn.lt hq).2 (fun he => hnot q he.symm hq)) HGR.out.size⟩, ?_, HB3⟩
              intro q hq hin
              rcases HAT.out with he | ⟨b, he, hb⟩
              · rw [he] at hq
                exact hnot q hq hin
              · rw [he] at hq
                cases hq
                have := (hsn.lt hin).2
                omega
            case measure => have := HLT.out; simp [intOf]; omega
        · have k1 : ¬ (k : Int) < ms.length := by omega
          have HWL := Lib.hid (show ws.length = ms.length by omega)
          have HPS := Lib.hid (show (ws.map WI.p).length = ms.length by rw [List.length_map]; exact HWL.out)
          obtain ⟨A5, c5, rfl⟩ := Kd.R_slice HK.out
          rw [HPS.out]
          have HRP := Aside0.mk HK.out
          clear hlt hwl hk
          go_wp2_with fail
          refine (Cm.new_calls wr).mono ?_
          rintro e w3 ⟨pd, K3, rfl, hD, hb3, hK3⟩
          have D3 := Aside0.mk hD
          have B3 := Aside0.mk hb3
          have HG3 := Aside0.mk ((hb3.block _ (blk_lt ((HB.out.block _ (blk_lt HG2.out)).trans HG2.out))).trans ((HB.out.block _ (blk_lt HG2.out)).trans HG2.out))
          obtain ⟨g6, g7⟩ := P_cells (x := (0, 0)) HG3.out
          clear hD hb3 hK3
          go_wp2_with fail
          refine (Cm.begin_calls D3.out Cm.Fine.new (by simp [Cm.Dk.new]) A c ms (Kd.C_below HR.out (below_step (below_step H2.out HB.out) B3.out)) (by have := HT.out.m8; omega)).mono ?_
          rintro e w4 ⟨he, hl⟩
          rw [begin_ask HT.out] at he hl
          obtain rfl : e = .returned (.tuple #[.int .i64 1, .nilIface]) := he
          obtain ⟨K4, hd4, hm4⟩ := hl
          have D4 := Aside0.mk hd4
          have M4 := Aside0.mk hm4
          have B4 := Aside0.mk (show Below wr.heap.size wr w4 from B3.out.trans hm4.below)
          clear hd4 hm4 g6 g7
          have hmk : ∀ W : World, (Instr.makeSlice 44 (.int .i64 (ms.length : Int)) (.int .i64 (ms.length : Int))).run Tryz.prog W = .ok (.slice (some ⟨W.heap.size, 0, none⟩) ms.length ms.length) (W.alloc (.cells (Array.replicate ms.length (.bool false)) 4)) := fun W => by rw [← reps, ← made_bools]; exact run_make_row' _ _ (.bool false) 1 Tryz.underlying44 infoB rfl .i64 .i64 ms.length (by omega) (by omega) W
          go_upto_region 20 with (fail)
          go_cut [18, 19] (fun v18 v19 wx => ∃ bb rb, v18 = .slice (some ⟨bb, 0, none⟩) ms.length ms.length ∧ v19 = .slice (some ⟨rb, 0, none⟩) ms.length ms.length ∧ Hid (w4.heap.size ≤ bb ∧ w4.heap.size ≤ rb ∧ bb ≠ rb) ∧ Hid (wx.heap[bb]? = some (.cells ((List.replicate ms.length false).map Value.bool).toArray 4 (0, 0))) ∧ Hid (wx.heap[rb]? = some (.cells ((List.replicate ms.length false).map Value.bool).toArray 4 (0, 0))) ∧ Aside0 (Below w4.heap.size w4 wx))
          case first =>
            as_aux_lemma =>
              go_region
              all_goals go_wp2
              · go_meet
                case rel => exact ⟨w4.heap.size, w4.heap.size + 1, rfl, rfl, by unfold Hid; omega, by unfold Hid; rw [reps]; exact Aw.al_old (Aw.al_new rfl), by unfold Hid; rw [reps]; exact Aw.al_new (Aw.al_size _ _), ⟨(below_alloc (below_alloc (Below.refl _ _) _) _).drew⟩⟩
              · go_meet
                case rel => exact ⟨w4.heap.size + 1, w4.heap.size, rfl, rfl, by unfold Hid; omega, by unfold Hid; rw [reps]; exact Aw.al_new (Aw.al_size _ _), by unfold Hid; rw [reps]; exact Aw.al_old (Aw.al_new rfl), ⟨(below_alloc (below_alloc (Below.refl _ _) _) _).drew⟩⟩
          case rest =>
            obtain ⟨bb, rb, rfl, rfl, hbr, hbg, hrg, hbc⟩ := hcut
            obtain ⟨w5, hw5⟩ : ∃ w5, w5 = wc := ⟨_, rfl⟩
            have h2s := H2.out.size
            have hbs := HB.out.size
            have h4s := B4.out.size
            have hcs := hbc.out.size
            have hg2 := blk_lt HG2.out
            have HWLO := Lib.hid (show ∀ k, InW ws k → w2.heap.size ≤ k ∧ k < wr.heap.size from fun k hk => HWV.out.lt hk)
            have HBW5 := Aside0.mk (show Below wr.heap.size wr wc from B4.out.trans (hbc.out.mono (by omega)))
            have HMEM := Aside0.mk (show Pm w wc wc wr.heap.size w4.heap.size bb rb pd ws (ndOf ms ls st0) (List.replicate ms.length false) (List.replicate ms.length false) K4 (ask ms (dn ls st0)) (.slice none 0 0) (.slice none 0 0) st0.todo [] from
              ⟨fun k _ _ => rfl, Nat.le_refl _, below_step (below_step H2.out HB.out) HBW5.out,
               ⟨fun i hi => (HWV.out.is i hi).below HBW5.out, fun i hi => Nat.le_trans h2s (HWV.out.lo i hi), fun i hi => Nat.le_trans (HWV.out.hi i hi) HBW5.out.size, HWV.out.sep⟩,
               fun k hk => (HWLO.out k hk).2, ⟨by omega, by omega, hbr.out.1, hbr.out.2.1, blk_lt hbg.out, blk_lt hrg.out, hbr.out.2.2⟩, D4.out.stay hbc.out, fun k hk => .inl (D4.out.kb k hk).2, hbg.out, hrg.out, Kd.R_nil _ _ _ _ _, Kd.R_nil _ _ _ _ _,
               fun k hk => by simp [Value.ownBlock] at hk, fun k hk => by simp [Value.ownBlock] at hk, fun k hk => by simp [Value.ownBlock] at hk⟩)
            -- what never changes: the graph's box, the row of the waves
            have HGB := Lib.hid (show ∀ W : World, (∀ k, k < wr.heap.size → ¬ InW ws k → W.heap[k]? = wc.heap[k]?) → W.heap[w.heap.size]? = some (.cells #[.slice A ms.length c, .slice B ls.length d] 25 (0, 0)) from fun W hW => by
              rw [hW _ (by omega) (fun hk => by have := (HWLO.out _ hk).1; omega)]
              exact (HBW5.out.block _ (by omega)).trans ((HB.out.block _ hg2).trans HG2.out))
            have HPW := Lib.hid (show ∀ W : World, (∀ k, k < wr.heap.size → ¬ InW ws k → W.heap[k]? = wc.heap[k]?) → kP.C W A5 (ws.map WI.p).length (ws.map WI.p) from fun W hW => by
              have h1 := R_own_move (dd := kP) (fun h => h) HRP.out (w1 := W) (fun k hk => by
                have h2 := R_own_lt HRP.out hk
                rw [hW k h2.2 (HOW.out k hk)]
                exact HBW5.out.block _ h2.2)
              have := (Kd.R_reads' h1).2.2
              rw [HPS.out] at this ⊢
              exact this)
            have HPO := Lib.hid (show ∀ ad, A5 = some ad → ∀ a, a < ws.length → ¬ In (wAt ws a).lo (wAt ws a).hi (ad.add a).block from fun ad he a ha hc => by
              have h1 : (Value.slice A5 (ws.map WI.p).length c5).ownBlock = some ad.block := own_of_row HRP.out he (by rw [HPS.out]; exact List.length_pos_iff.2 HT.out.ne)
              exact HOW.out _ h1 ⟨a, ha, by rw [add_block] at hc; exact hc⟩)
            rw [← hw5] at HMEM HGB HPW ⊢
            obtain ⟨dlo, hdlo⟩ : ∃ dlo, dlo = wr.heap.size := ⟨_, rfl⟩
            obtain ⟨dhi, hdhi⟩ : ∃ dhi, dhi = w4.heap.size := ⟨_, rfl⟩
            rw [← hdlo, ← hdhi] at HMEM
            rw [← hdlo] at HGB HPW
            clear h2s hbs h4s hcs hg2 hbr hbg hrg hbc hw5 hdlo hdhi HWLO HBW5 HWV HK HOW HB HRP D3 D4 M4 B3 B4 HG1 HG2 HG3 HBG H1 hmk
            go_upto_block 2 with (fail)
            go_cut [20] (fun v20 wx => ∃ (s : St) (bs rs : List Bool) (K : Nat → Prop) (st : Int) (vT vN : Value) (t0 : List (Int × Int)) (T : List Int), Hid (st = 2 ∨ st = 3) ∧ Aside0 (Pm w w5 wx dlo dhi bb rb pd ws (ndOf ms ls s) bs rs K (fin st ms 0) vT vN t0 T) ∧ Hid (Inv (WvTree.Edge ls) ms (near15 ls) s) ∧ Hid (rs.length = ms.length ∧ ∀ i, i < ms.length → rs.getD i false = dn ls s (rd ms i)) ∧ Hid ((st = 2 → ∀ u, u ∈ ms → dn ls s u = true) ∧ (st = 3 → ∃ u, u ∈ ms ∧ dn ls s u = false)))
            case first =>
              go_wp2_with fail
              go_loopw [17, 20, 21] (fun v17 v20 v21 wr => ∃ (s : St) (k : Nat) (bs rs : List Bool) (K : Nat → Prop) (q : Nat), v17 = .nilIface ∧ v21 = .int .i64 k ∧ Aside0 (Pm w w5 wr dlo dhi bb rb pd ws (ndOf ms ls s) bs rs K (ask ms (dn ls s)) v20 (.slice none 0 0) s.todo []) ∧ Hid (Inv (WvTree.Edge ls) ms (near15 ls) s) ∧ Hid (bs.length = ms.length ∧ rs.length = ms.length ∧ (∀ i, i < ms.length → bs.getD i false = s.bg (rd ms i)) ∧ (∀ i, i < ms.length → rs.getD i false = dn ls s (rd ms i))) ∧ Hid (Way ms s.bg ch.length k q ∧ k + mu ms ls s * 1000 + q ≤ 40000)) (fun _ _ v _ => 40000 - (intOf v).toNat)
              case atStart =>
                obtain ⟨q, hq, hw⟩ := way_new (ms := ms) st0.bg ch.length 0 HT.out.m8 (by omega)
                have h1 := mu_start HT.out
                exact ⟨st0, 0, _, _, K4, q, rfl, rfl, HMEM, Inv.start, ⟨by simp, by simp, fun i hi => by simp [st0, List.getD_eq_getElem?_getD, List.getElem?_replicate, hi], fun i hi => by rw [dn_start]; simp [List.getD_eq_getElem?_getD, List.getElem?_replicate, hi]⟩, hw, by omega⟩
              case round =>
                obtain ⟨s, k, bs, rs, K, q, rfl, rfl, HM, HI, HS, HQ⟩ := hrel
                obtain ⟨A7, c7, rfl⟩ := Kd.R_slice HM.out.rt
                have HAL := Lib.hid (all_len HT.out HI.out)
                have HFD := Lib.hid (ask_fine (R := dn ls s) HT.out.m8)
                have HK := Lib.hid (show k ≤ 40000 by have := HQ.out.2; omega)
                rcases ask_st ms (dn ls s) with ⟨hst, hun⟩ | ⟨hst, hall, hask⟩
                · have HST := Lib.hid hst
                  have HUN := Lib.hid hun
                  clear hst hun
                  go_upto_if 96 with (go_at_call 10; refine (Cm.state_calls HM.out.dk).mono ?_; rintro e w6 ⟨rfl, rfl⟩; rw [HST.out])
                  have k0 : (0 : Int) ≤ k := by omega
                  have k1 : (k : Int) ≤ 40000 := by have := HK.out; omega
                  go_cut [22] (fun s22 wx => ∃ cv : Nat, s22 = .int .i64 cv ∧ Hid (ch.length ≤ k → cv = k) ∧ wx = wr)
                  case first =>
                    as_aux_lemma =>
                      by_cases e1 : k < ch.length
                      · have e1b : decide ((k : Int) < ch.length) = true := decide_eq_true (by omega)
                        have e1c : (k : Int) < ch.length := by omega
                        have E1 := Lib.hid e1
                        obtain ⟨adc, rfl, hcc⟩ := C_cell (Kd.C_below HCH.out HM.out.below) e1
                        obtain ⟨x, hx⟩ : ∃ x, x = rd ch k := ⟨_, rfl⟩
                        rw [← hx] at hcc
                        clear hx e1
                        by_cases e2 : 0 < x
                        · obtain ⟨xn, rfl⟩ := Int.eq_ofNat_of_zero_le (show 0 ≤ x by omega)
                          go_wp2
                          go_meet
                          case rel => exact ⟨xn, rfl, fun h => by have := E1.out; omega, rfl⟩
                        · go_wp2
                          go_meet
                          case rel => exact ⟨0, rfl, fun h => by have := E1.out; omega, rfl⟩
                      · have e1b : decide ((k : Int) < ch.length) = false := decide_eq_false (by omega)
                        have e1c : ¬ (k : Int) < ch.length := by omega
                        go_wp2
                        go_meet
                        case rel => exact ⟨k, rfl, fun _ => rfl, rfl⟩
                  case rest =>
                    obtain ⟨cv, rfl, HCV, hwx⟩ := hcut
                    subst hwx
                    by_cases hstop : (k : Int) = stop
                    · as_aux_lemma =>
                        have hsb : ((k : Int) == stop) = true := beq_iff_eq.2 hstop
                        clear hstop
                        go_wp2_with (go_at_call 11; refine (Cm.recover_calls HM.out.dk HFD.out).mono ?_; rintro e w6 ⟨rfl, hl⟩; rw [ask_recover HST.out] at hl; obtain ⟨K6, hd6, hm6⟩ := hl; have HM6 := Aside0.mk (HM.out.desk hd6 hm6); clear hd6 hm6)
                        go_meet
                        case rel =>
                          refine ⟨s, bs, rs, K6, 3, _, _, _, _, .inr rfl, ⟨by have := HM6.out; rw [← fin_zero HT.out.ne] at this; exact this⟩, HI, ⟨HS.out.2.1, HS.out.2.2.2⟩, (by intro h; omega), fun _ => HUN.out⟩
                    · have hsb : ((k : Int) == stop) = false := beq_eq_false_iff_ne.2 hstop
                      obtain ⟨aN, haN⟩ : ∃ aN, aN = cv % ms.length := ⟨_, rfl⟩
                      have HNP := Lib.hid (show 0 < ms.length from List.length_pos_iff.2 HT.out.ne)
                      have hrem : Int.tmod (cv : Int) (ms.length : Int) = (aN : Int) := by rw [haN]; exact (Int.ofNat_tmod cv ms.length).symm
                      have hnz : ((ms.length : Int) == 0) = false := beq_eq_false_iff_ne.2 (by have := HNP.out; omega)
                      have hnz2 : ¬ ((ms.length : Int) = 0) := by have := HNP.out; omega
                      have HAN := Lib.hid (show aN < ms.length by rw [haN]; exact Nat.mod_lt _ HNP.out)
                      have HAE := Lib.hid haN
                      have a0 : (0 : Int) ≤ aN := by omega
                      have a1 : (aN : Int) < ms.length := by have := HAN.out; omega
                      have hbc := begun_cell HM.out.bg (i := aN) (by rw [HS.out.1]; exact HAN.out)
                      obtain ⟨b, hb⟩ : ∃ b, b = bs.getD aN false := ⟨_, rfl⟩
                      rw [← hb] at hbc
                      have HB := Lib.hid hb
                      clear hb haN hstop
                      go_upto_if 114 with (fail)
                      go_cut [17, 20, 23, 24] (fun s17 s20 s23 s24 wx => ∃ (s2 : St) (t0 : List (Int × Int)) (a : Nat) (T : List Int) (bs2 : List Bool) (q2 : Nat), s17 = .nilIface ∧ s24 = .int .i64 a ∧ Hid (a < ms.length) ∧ Aside0 (Pm w w5 wx dlo dhi bb rb pd ws (ndOf ms ls s2) bs2 rs K (ask ms (dn ls s)) s20 s23 t0 T) ∧ Hid (Inv (WvTree.Edge ls) ms (near15 ls) s2) ∧ Hid (s2.todo = t0 ++ T.map (fun v => (rd ms a, v))) ∧ Hid (bs2.length = ms.length ∧ (∀ i, i < ms.length → bs2.getD i false = s2.bg (rd ms i))) ∧ Hid ((∀ i, i < ms.length → i ≠ a → dn ls s2 (rd ms i) = dn ls s (rd ms i)) ∧ (dn ls s (rd ms a) = true → dn ls s2 (rd ms a) = true)) ∧ Hid (Way ms s2.bg ch.length (k + 1) q2 ∧ k + 1 + mu ms ls s2 * 1000 + q2 ≤ 40000))
                      case first =>
                        cases b with
                        | false =>
                          as_aux_lemma =>
                            have HUB := Lib.hid (show s.bg (rd ms aN) = false by rw [← HS.out.2.2.1 aN HAN.out, ← HB.out])
                            have HAW := Lib.hid (show aN < ws.length by rw [HWL.out]; exact HAN.out)
                            have HBL := Lib.hid (show aN < bs.length by rw [HS.out.1]; exact HAN.out)
                            have s2 := blk_frozen HM.out.bg aN
                            clear hrem hnz hnz2
                            go_upto_region 34 with (fail)
                            obtain ⟨wy, hwy⟩ : ∃ wy, wy = wc.setCell ⟨bb, aN, none⟩ (.bool true) := ⟨_, rfl⟩
                            rw [← hwy]
                            have HMY := Aside0.mk (show Pm w w5 wy dlo dhi bb rb pd ws (ndOf ms ls s) (bs.set aN true) rs K (ask ms (dn ls s)) (.slice A7 s.todo.length c7) (.slice none 0 0) s.todo [] by rw [hwy]; exact HM.out.begun aN)
                            clear hwy hbc s2
                            obtain ⟨adp, rfl, hpc⟩ := P_at (HPW.out wy HMY.out.old) (k := aN) (by rw [HPS.out]; exact HAN.out)
                            rw [p_at HAW.out] at hpc
                            go_wp2_with (go_at_call 12; refine (begin_calls _ (wAt ws aN).lo (wAt ws aN).hi _ (ndOf ms ls s aN) (Inv.fine HT.out HI.out (rd_mem ms aN HAN.out)) (HMY.out.wv.is aN HAW.out) HUB.out).mono ?_; rintro e w6 ⟨v, rfl, hv, hW, hB, hKp⟩; obtain ⟨A13, c13, rfl⟩ := Kd.R_slice hv; have HM6 := Aside0.mk (HMY.out.says HAW.out hKp hB hW hv); clear hv hW hB hKp)
                            go_meet
                            case rel =>
                              have hmu := mu_begin HT.out HI.out (rd_mem ms aN HAN.out) HUB.out
                              obtain ⟨q2, hq2, hway⟩ := way_new (ms := ms) (begin_ (near15 ls) s (rd ms aN)).bg ch.length (k + 1) HT.out.m8 (by omega)
                              refine ⟨begin_ (near15 ls) s (rd ms aN), s.todo, aN, _, bs.set aN true, q2, rfl, rfl, HAN, ⟨HM6.out.waves (fun i hi => ndOf_begin HT.out HAN.out i (by rw [← HWL.out]; exact hi))⟩, HI.out.begin_ok HT.out.net (rd_mem ms aN HAN.out) HUB.out, rfl, ⟨?_, ?_⟩, ⟨fun i hi hne => begin_dn HT.out HAN.out hi hne, fun h => by rw [unbegun_dn HUB.out] at h; cases h⟩, hway, ?_⟩
                              · rw [List.length_set]; exact HS.out.1
                              · intro i hi
                                rw [set_getD bs aN i HBL.out]
                                show _ = upd s.bg (rd ms aN) true (rd ms i)
                                by_cases e : i = aN
                                · rw [if_pos e, e]; simp [upd]
                                · rw [if_neg e, HS.out.2.2.1 i hi, upd_other _ _ (rd_inj HT.out.mok hi HAN.out e)]
                              · have := HQ.out.2
                                omega
                        | true =>
                          by_cases htl : s.todo.length = 0
                          · as_aux_lemma =>
                              have ht0 : s.todo = [] := List.eq_nil_of_length_eq_zero htl
                              have htlI : (s.todo.length : Int) = 0 := by omega
                              have htlb : decide ((s.todo.length : Int) > 0) = false := decide_eq_false (by omega)
                              have HT0 := Lib.hid ht0
                              have HTL0 := Lib.hid htl
                              clear ht0 htl hrem hnz hnz2 hbc
                              go_wp2
                              go_meet
                              case rel =>
                                have hx := quiet_some HT.out HI.out HT0.out HUN.out
                                have hq : ch.length ≤ k → s.bg (rd ms (k % ms.length : Nat)) = true := fun h => by
                                  rw [← HCV.out h, ← HAE.out, ← HS.out.2.2.1 aN HAN.out, ← HB.out]
                                obtain ⟨q2, hq2, hway⟩ := way_next HT.out.m8 HQ.out.1 hq hx
                                refine ⟨s, s.todo, aN, [], bs, q2, rfl, rfl, HAN, HM, HI, by unfold Hid; simp, ⟨HS.out.1, HS.out.2.2.1⟩, ⟨fun i hi _ => rfl, fun h => h⟩, hway, by have := HQ.out.2; omega⟩
                          · as_aux_lemma =>
                              have htd := Lib.hid (show s.todo.length ≤ s.all.length from LC.length_le_of_subset HI.out.dn HI.out.da)
                              have htl2 : (s.todo.length : Int) ≤ 14 := by have := htd.out; have := HAL.out; have := HT.out.len; have := HT.out.m8; omega
                              have htl0 : 0 < s.todo.length := by omega
                              have htlb : decide ((s.todo.length : Int) > 0) = true := decide_eq_true (by omega)
                              obtain ⟨tl, htl'⟩ : ∃ tl, tl = s.todo.length := ⟨_, rfl⟩
                              have HTL := Lib.hid htl'
                              rw [← htl'] at HM htl2 htl0 htlb ⊢
                              obtain ⟨jN, hjN⟩ : ∃ jN, jN = cv % tl := ⟨_, rfl⟩
                              have hremj : Int.tmod (cv : Int) (tl : Int) = (jN : Int) := by rw [hjN]; exact (Int.ofNat_tmod cv tl).symm
                              clear hrem hnz hnz2 hbc htl
                              have hnz : ((tl : Int) == 0) = false := beq_eq_false_iff_ne.2 (by omega)
                              have hnz2 : ¬ ((tl : Int) = 0) := by omega
                              have hnz3 : ¬ (tl = 0) := by omega
                              have hjl : jN < tl := by rw [hjN]; exact Nat.mod_lt _ htl0
                              have HJL := Lib.hid (show jN < s.todo.length by rw [← HTL.out]; exact hjl)
                              have j0 : (0 : Int) ≤ jN := by omega
                              have j1 : (jN : Int) < tl := by omega
                              have HC7 := Lib.hid (Kd.R_reads' (by have := HM.out.rt; rw [HTL.out] at this; exact this)).2.2
                              have HCAP := Lib.hid (Kd.R_reads' (by have := HM.out.rt; rw [HTL.out] at this; exact this)).2.1
                              obtain ⟨ad7, rfl, m0, m1⟩ := Lk_cell HC7.out HJL.out
                              obtain ⟨m, hmm⟩ : ∃ m, m = lkAt s.todo jN := ⟨_, rfl⟩
                              rw [← hmm] at m0 m1
                              have HMM := Lib.hid (show m ∈ s.todo by rw [hmm]; exact lkAt_mem _ _ HJL.out)
                              have HT1 := Lib.hid (todo_less HI.out.dn HJL.out)
                              rw [← hmm] at HT1
                              obtain ⟨x, u⟩ := m
                              simp only [] at m0 m1
                              obtain ⟨hu, hxn, hxh⟩ := HI.out.hear_facts HT.out.net HMM.out
                              have HU := Lib.hid hu
                              have HXN := Lib.hid hxn
                              have HXH := Lib.hid hxh
                              clear hjN hmm hu hxn hxh htl0 htl'
                              obtain ⟨TK, hTK⟩ : ∃ TK, TK = s.todo.take jN := ⟨_, rfl⟩
                              obtain ⟨TD, hTD⟩ : ∃ TD, TD = s.todo.drop (jN + 1) := ⟨_, rfl⟩
                              have HTKL := Lib.hid (show TK.length ≤ 14 by rw [hTK, List.length_take]; have := HTL.out; omega)
                              have HTDL := Lib.hid (show TD.length ≤ 14 by rw [hTD, List.length_drop]; have := HTL.out; omega)
                              obtain ⟨AF, hfr, hCF⟩ := Msg_front HC7.out (Nat.le_of_lt HJL.out) HCAP.out
                              obtain ⟨AB, hbk, hCB⟩ := Msg_back HC7.out (show jN + 1 ≤ s.todo.length from HJL.out) HCAP.out
                              rw [← HTL.out, ← hTK] at hfr
                              rw [← HTL.out, ← hTD] at hbk
                              rw [← hTK] at hCF
                              rw [← hTD] at hCB
                              have hbk2 : ∀ W : World, (Instr.slice 45 (.slice (some ad7) tl c7) (some (.int .i64 ((jN : Int) + 1))) none none).run Tryz.prog W = .ok (.slice AB TD.length (c7 - (jN + 1))) W := fun W => by have := hbk W; rw [Int.natCast_add, Int.natCast_one] at this; exact this
                              have HCF := Lib.hid hCF
                              have HCB := Lib.hid hCB
                              rw [← hTK, ← hTD] at HT1
                              clear hTK hTD hCF hCB hbk
                              go_upto_region 38 with (fail)
                              obtain ⟨w0, hw0⟩ : ∃ w0, w0 = wc.alloc (.cells #[.int .i64 x, .int .i64 u] 51) := ⟨_, rfl⟩
                              rw [← hw0]
                              have HBX := Aside0.mk (show w0.heap[wc.heap.size]? = some (.cells #[.int .i64 x, .int .i64 u] 51 (0, 0)) by rw [hw0]; exact heap_alloc_new _ _)
                              have HB0 := Aside0.mk (show Below wc.heap.size wc w0 by rw [hw0]; exact below_alloc (Below.refl _ _) _)
                              clear hw0 m0 m1 hremj hnz hnz2
                              go_upto_region 40 with (first
                                | (at_builtin; refine Kd.R_append_rows kLk (w0 := w0) w0.heap.size rfl _ _ _ 51 (.agg #[.int .i64 0, .int .i64 0]) 16 rfl Tryz.underlying45 infoM rfl (by decide) (by omega) (.slice A19 TK.length c19) TK TD AB TD.length _ (fun _ => True) (fun _ => False) rfl rfl HO7.out (Kd.C_below HCB.out (below_step HB0.out HB7.out)) (fun x cs h => by rw [kLk_open h]; exact kLk_mkM _ _ _ x) (fun _ hk => hk.elim) (fun _ _ => trivial) HB7.out HB7.out.size (by have := HTKL.out; have := HTDL.out; omega) ?_; intro v8 w8 ho hb hg hat; obtain ⟨A20, c20, rfl⟩ := Kd.R_slice ho; have HO8 := Aside0.mk ho; have HB8 := Aside0.mk hb; clear ho hb hg hat)
                                | (at_builtin; refine Kd.R_append_rows kLk (w0 := w0) w0.heap.size rfl _ _ _ 51 (.agg #[.int .i64 0, .int .i64 0]) 16 rfl Tryz.underlying45 infoM rfl (by decide) (by omega) (.slice (some ⟨w0.heap.size, 0, none⟩) 0 0) [] TK AF TK.length c7 (fun _ => True) (fun _ => False) rfl rfl (lk_empty w0 _ (Nat.le_refl _) _) (Kd.C_below HCF.out (below_alloc HB0.out _)) (fun x cs h => by rw [kLk_open h]; exact kLk_mkM _ _ _ x) (fun _ hk => hk.elim) (fun _ _ => trivial) (below_alloc (Below.refl _ _) _) (by simp) (by simp only [List.length_nil]; have := HTKL.out; omega) ?_; intro v7 w7 ho hb hg hat; rw [List.nil_append] at ho; obtain ⟨A19, c19, rfl⟩ := Kd.R_slice ho; have HO7 := Aside0.mk ho; have HB7 := Aside0.mk hb; clear ho hb hg hat))
                              clear hfr hbk2
                              have HM8 := Aside0.mk ((HM.out.step HB0.out).fresh HO8.out HB8.out)
                              obtain ⟨g0, g1⟩ := P_cells (x := (0, 0)) (HGB.out w8 HM8.out.old)
                              obtain ⟨b0, b1⟩ := P_cells (x := (0, 0)) ((HB8.out.block _ (blk_lt HBX.out)).trans HBX.out)
                              go_upto_region 41 with (go_at_call 13; refine (place_calls w8 _ _ _ _ _ ms u (Kd.C_below HR.out HM8.out.below) HU.out).mono ?_; rintro e w9 ⟨a, rfl, ha, hau, hbl⟩; have HA := Lib.hid ha; have HAU := Lib.hid hau; have HM9 := Aside0.mk (HM8.out.step hbl); have HBX9 := Aside0.mk ((hbl.block _ (Nat.lt_of_lt_of_le (blk_lt HBX.out) HB8.out.size)).trans ((HB8.out.block _ (blk_lt HBX.out)).trans HBX.out)); clear ha hau hbl)
                              clear g0 g1 b0 b1
                              have a0' : (0 : Int) ≤ a := by omega
                              have a1' : (a : Int) < ms.length := by have := HA.out; omega
                              have HAW := Lib.hid (show a < ws.length by rw [HWL.out]; exact HA.out)
                              obtain ⟨adp, rfl, hpc⟩ := P_at (HPW.out w9 HM9.out.old) (k := a) (by rw [HPS.out]; exact HA.out)
                              rw [p_at HAW.out] at hpc
                              obtain ⟨b0, b1⟩ := P_cells (x := (0, 0)) HBX9.out
                              have P0 := Lib.hid hpc
                              have PL0 := Lib.hid (show (adp.add a).block < w9.heap.size ∧ ¬ In (wAt ws a).lo (wAt ws a).hi (adp.add a).block from ⟨cell_in hpc, HPO.out adp rfl a HAW.out⟩)
                              have X0 := Lib.hid b0
                              have XL0 := Lib.hid (show wc.heap.size < w9.heap.size ∧ ¬ In (wAt ws a).lo (wAt ws a).hi wc.heap.size from ⟨blk_lt HBX9.out, fun hc => by have := (HM.out.wv.lt (k := wc.heap.size) ⟨a, HAW.out, hc⟩).2; omega⟩)
                              clear hpc b0 b1
                              have HM9d := Aside0.mk (HM9.out.step (Below.refl _ _).drew)
                              refine wp_region_noPanic ?_
                              refine wp_region_held_drew (S := fun W => Kept w9 W (In (wAt ws a).lo (wAt ws a).hi)) (by kernel_rfl) ⟨Nat.le_refl _, fun _ _ _ => rfl⟩ (fun hHeld => ?_)
                              refine wpAnyH_take (i := 0) (v := ?_) rfl (by kernel_rfl) (by kernel_rfl) (by kernel_rfl) (fun _ _ _ h => h) (Or.inl ⟨by rfl, ?_⟩) (by assumption) ?_
                              rotate_left 1
                              · first | (intro w hSw; go_simp; done) | (intro w hSw; go_simp; with_reducible rfl)
                              try simp only [Act.put, List.getElem_toArray, List.getElem_cons_zero, List.getElem_cons_succ, List.setIfInBounds_toArray, List.set_cons_zero, List.set_cons_succ]
                              refine wpAnyH_take (i := 1) (v := ?_) rfl (by kernel_rfl) (by kernel_rfl) (by kernel_rfl) (fun _ _ _ h => h) (Or.inl ⟨by rfl, ?_⟩) (by assumption) ?_
                              rotate_left 1
                              · first | (intro w hSw; go_simp; done) | (intro w hSw; go_simp; with_reducible rfl)
                              try simp only [Act.put, List.getElem_toArray, List.getElem_cons_zero, List.getElem_cons_succ, List.setIfInBounds_toArray, List.set_cons_zero, List.set_cons_succ]
                              refine wpAnyH_take (i := 2) (v := ?_) rfl (by kernel_rfl) (by kernel_rfl) (by kernel_rfl) (fun _ _ _ h => h) (Or.inl ⟨by rfl, ?_⟩) (by assumption) ?_
                              rotate_left 1
                              · first | (intro w hSw; go_simp; done) | (intro w hSw; go_simp; with_reducible rfl)
                              try simp only [Act.put, List.getElem_toArray, List.getElem_cons_zero, List.getElem_cons_succ, List.setIfInBounds_toArray, List.set_cons_zero, List.set_cons_succ]
                              refine wpAnyH_take (i := 3) (v := ?_) rfl (by kernel_rfl) (by kernel_rfl) (by kernel_rfl) (fun _ _ _ h => h) (Or.inl ⟨by rfl, ?_⟩) (by assumption) ?_
                              rotate_left 1
                              · first | (intro w hSw; have c0 : w.cell? (adp.add a) = _ := (Kept.cellk hSw PL0.out.1 PL0.out.2).trans P0.out; go_simp; done) | (intro w hSw; have c0 : w.cell? (adp.add a) = _ := (Kept.cellk hSw PL0.out.1 PL0.out.2).trans P0.out; go_simp; with_reducible rfl)
                              try simp only [Act.put, List.getElem_toArray, List.getElem_cons_zero, List.getElem_cons_succ, List.setIfInBounds_toArray, List.set_cons_zero, List.set_cons_succ]
                              refine wpAnyH_take (i := 4) (v := ?_) rfl (by kernel_rfl) (by kernel_rfl) (by kernel_rfl) (fun _ _ _ h => h) (Or.inl ⟨by rfl, ?_⟩) (by assumption) ?_
                              rotate_left 1
                              · first | (intro w hSw; go_simp; done) | (intro w hSw; go_simp; with_reducible rfl)
                              try simp only [Act.put, List.getElem_toArray, List.getElem_cons_zero, List.getElem_cons_succ, List.setIfInBounds_toArray, List.set_cons_zero, List.set_cons_succ]
                              refine wpAnyH_take (i := 5) (v := ?_) rfl (by kernel_rfl) (by kernel_rfl) (by kernel_rfl) (fun _ _ _ h => h) (Or.inl ⟨by rfl, ?_⟩) (by assumption) ?_
                              rotate_left 1
                              · first | (intro w hSw; have c1 : w.cell? ⟨wc.heap.size, 0, none⟩ = _ := (Kept.cellk (p := ⟨wc.heap.size, 0, none⟩) hSw XL0.out.1 XL0.out.2).trans X0.out; go_simp; done) | (intro w hSw; have c1 : w.cell? ⟨wc.heap.size, 0, none⟩ = _ := (Kept.cellk (p := ⟨wc.heap.size, 0, none⟩) hSw XL0.out.1 XL0.out.2).trans X0.out; go_simp; with_reducible rfl)
                              try simp only [Act.put, List.getElem_toArray, List.getElem_cons_zero, List.getElem_cons_succ, List.setIfInBounds_toArray, List.set_cons_zero, List.set_cons_succ]
                              refine wpAnyH_ready (rs := [6]) (by kernel_rfl) (by simp) ?_
                              refine AllReadyH.cons rfl (fun K hK => ?_) AllReadyH.nil
                              go_simp
                              (go_at_call 14; refine (hear_calls _ (wAt ws a).lo (wAt ws a).hi _ (ndOf ms ls s a) x (Inv.fine HT.out HI.out (rd_mem ms a HA.out)) (HM9d.out.wv.is a HAW.out) (by show x ∈ near15 ls (rd ms a); rw [HAU.out]; exact HXN.out) (by show x ∉ s.heard (rd ms a); rw [HAU.out]; exact HXH.out)).mono ?_; rintro e w6 ⟨v, rfl, hv, hW, hB, hKp⟩; obtain ⟨A13, c13, rfl⟩ := Kd.R_slice hv; have HM6 := Aside0.mk (HM9d.out.says HAW.out hKp hB hW hv); have hHeld2 : Kept w9 w6 (In (wAt ws a).lo (wAt ws a).hi) := ⟨hKp.1, hKp.2⟩; clear hv hW hB hKp)
                              go_simp
                              refine hK.out _ _ hHeld2 (fun hHeld => ?_)
                              clear hK K
                              try simp only [Act.put, List.getElem_toArray, List.getElem_cons_zero, List.getElem_cons_succ, List.setIfInBounds_toArray, List.set_cons_zero, List.set_cons_succ]
                              refine wpAnyH_take (i := 7) (v := ?_) rfl (by kernel_rfl) (by kernel_rfl) (by kernel_rfl) (fun _ _ _ h => h) (Or.inl ⟨by rfl, ?_⟩) (by assumption) ?_
                              rotate_left 1
                              · first | (intro w hSw; go_simp; done) | (intro w hSw; go_simp; with_reducible rfl)
                              try simp only [Act.put, List.getElem_toArray, List.getElem_cons_zero, List.getElem_cons_succ, List.setIfInBounds_toArray, List.set_cons_zero, List.set_cons_succ]
                              refine wpAnyH_take (i := 8) (v := ?_) rfl (by kernel_rfl) (by kernel_rfl) (by kernel_rfl) (fun _ _ _ h => h) (Or.inl ⟨by rfl, ?_⟩) (by assumption) ?_
                              rotate_left 1
                              · first | (intro w hSw; go_simp; done) | (intro w hSw; go_simp; with_reducible rfl)
                              try simp only [Act.put, List.getElem_toArray, List.getElem_cons_zero, List.getElem_cons_succ, List.setIfInBounds_toArray, List.set_cons_zero, List.set_cons_succ]
                              refine wpAnyH_take (i := 9) (v := ?_) rfl (by kernel_rfl) (by kernel_rfl) (by kernel_rfl) (fun _ _ _ h => h) (Or.inl ⟨by rfl, ?_⟩) (by assumption) ?_
                              rotate_left 1
                              · first | (intro w hSw; go_simp; done) | (intro w hSw; go_simp; with_reducible rfl)
                              try simp only [Act.put, List.getElem_toArray, List.getElem_cons_zero, List.getElem_cons_succ, List.setIfInBounds_toArray, List.set_cons_zero, List.set_cons_succ]
                              refine wpAnyH_take (i := 10) (v := ?_) rfl (by kernel_rfl) (by kernel_rfl) (by kernel_rfl) (fun _ _ _ h => h) (Or.inl ⟨by rfl, ?_⟩) (by assumption) ?_
                              rotate_left 1
                              · first | (intro w hSw; go_simp; done) | (intro w hSw; go_simp; with_reducible rfl)
                              try simp only [Act.put, List.getElem_toArray, List.getElem_cons_zero, List.getElem_cons_succ, List.setIfInBounds_toArray, List.set_cons_zero, List.set_cons_succ]
                              refine wpAnyH_take (i := 11) (v := ?_) rfl (by kernel_rfl) (by kernel_rfl) (by kernel_rfl) (fun _ _ _ h => h) (Or.inl ⟨by rfl, ?_⟩) (by assumption) ?_
                              rotate_left 1
                              · first | (intro w hSw; go_simp; done) | (intro w hSw; go_simp; with_reducible rfl)
                              try simp only [Act.put, List.getElem_toArray, List.getElem_cons_zero, List.getElem_cons_succ, List.setIfInBounds_toArray, List.set_cons_zero, List.set_cons_succ]
                              refine wpAnyH_done (by kernel_rfl) ?_ _
                              refine NoPanic.normal ?_
                              go_wp2
                              go_meet
                              case rel =>
                                have hmu := mu_hear HT.out HI.out HMM.out HT1.out.1 HT1.out.2.1 HT1.out.2.2
                                obtain ⟨q2, hq2, hway⟩ := way_new (ms := ms) s.bg ch.length (k + 1) HT.out.m8 (by omega)
                                refine ⟨hear_ (near15 ls) s x (rd ms a) (TK ++ TD), TK ++ TD, a, _, bs, q2, rfl, rfl, HA, ⟨by have h9 := HM6.out.waves (fun i hi => ndOf_hear HT.out HA.out x (TK ++ TD) i (by rw [← HWL.out]; exact hi)); rw [show (TK ++ TD).length = TK.length + TD.length from List.length_append] at h9; exact h9⟩, ?_, rfl, ⟨HS.out.1, HS.out.2.2.1⟩, ⟨fun i hi hne => hear_dn HT.out HA.out hi hne x (TK ++ TD), fun h => by rw [HAU.out, hears_dn HT.out HI.out HMM.out] at h; cases h⟩, hway, ?_⟩
                                · rw [HAU.out]
                                  exact HI.out.hear_ok HT.out.net HMM.out HT1.out.1 HT1.out.2.1
                                · rw [HAU.out]
                                  have := HQ.out.2
                                  omega
                      case rest =>
                        obtain ⟨s2, t0, a, T, bs2, q2, rfl, rfl, HA, HM2, HI2, HTA, HS2, HDN, HQ2⟩ := hcut
                        as_aux_lemma =>
                          have a0r : (0 : Int) ≤ a := by omega
                          have a1r : (a : Int) < ms.length := by have := HA.out; omega
                          obtain ⟨A13, c13, rfl⟩ := Kd.R_slice HM2.out.rn
                          have HALL2 := Lib.hid (all_len HT.out HI2.out)
                          have HTD2 := Lib.hid (show s2.todo.length ≤ s2.all.length from LC.length_le_of_subset HI2.out.dn HI2.out.da)
                          have HT14 := Lib.hid (show t0.length + T.length ≤ 14 by
                            have h1 := HALL2.out
                            have h2 := HTD2.out
                            rw [HTA.out] at h2
                            simp only [List.length_append, List.length_map] at h2
                            have := HT.out.len
                            have := HT.out.m8
                            omega)
                          have htl13 : (T.length : Int) ≤ 14 := by have := HT14.out; omega
                          obtain ⟨u, hu⟩ : ∃ u, u = rd ms a := ⟨_, rfl⟩
                          have HU := Lib.hid hu
                          rw [← hu] at HTA
                          clear hu hrem hnz hnz2 hbc HB
                          go_wp2
                          go_loopw [20, 166] (fun v20 v166 wr => ∃ q : Nat, v166 = .int .i64 q ∧ q ≤ T.length ∧ Aside0 (Pm w w5 wr dlo dhi bb rb pd ws (ndOf ms ls s2) bs2 rs K (ask ms (dn ls s)) v20 (.slice A13 T.length c13) (t0 ++ (T.take q).map (fun v => (u, v))) T)) (fun _ v _ => T.length - (intOf v).toNat)
                          case atStart => exact ⟨0, rfl, Nat.zero_le _, by rw [List.take_zero, List.map_nil, List.append_nil]; exact HM2⟩
                          case round =>
                            obtain ⟨q, rfl, hq, HMQ⟩ := hrel
                            by_cases hlt : q < T.length
                            · have HLT := Lib.hid hlt
                              have q0 : (0 : Int) ≤ q := by omega
                              have q1 : (q : Int) < T.length := by omega
                              obtain ⟨td, htd⟩ : ∃ td, td = t0 ++ (T.take q).map (fun v => (u, v)) := ⟨_, rfl⟩
                              have HTD := Lib.hid htd
                              rw [← htd] at HMQ
                              have HTDL := Lib.hid (show td.length ≤ 14 by rw [htd]; have := HT14.out; simp only [List.length_append, List.length_map, List.length_take]; omega)
                              obtain ⟨A7, c7, rfl⟩ := Kd.R_slice HMQ.out.rt
                              have HC13 := Lib.hid (Kd.R_reads' HMQ.out.rn).2.2
                              obtain ⟨ad13, rfl, hct⟩ := C_cell HC13.out hlt
                              obtain ⟨tv, htv⟩ : ∃ tv, tv = rd T q := ⟨_, rfl⟩
                              rw [← htv] at hct
                              have HTV := Lib.hid htv
                              obtain ⟨g0, g1⟩ := P_cells (x := (0, 0)) (HGB.out wr HMQ.out.old)
                              have hA : ∃ adm, A = some adm ∧ wr.cell? (adm.add a) = some (.int .i64 (rd ms a)) := C_cell (Kd.C_below HR.out HMQ.out.below) HA.out
                              obtain ⟨adm, rfl, hcm⟩ := hA
                              rw [← HU.out] at hcm
                              clear htd htv hlt
                              go_wp2_with (at_builtin; refine Kd.R_append kLk (w0 := wr) (W := wr) w5.heap.size rfl _ _ 45 51 (.agg #[.int .i64 0, .int .i64 0]) 16 rfl Tryz.underlying45 infoM rfl (by decide) (by omega) _ td (u, tv) [.int .i64 u, .int .i64 tv] (fun _ => True) (fun _ => False) rfl rfl (kLk_mkM _ _ _ (u, tv)) (fun _ hk => hk.elim) (fun _ _ => trivial) (by exact HMQ.out.rt) (Below.refl _ _) (HMQ.out.size) (by have := HTDL.out; omega) ?_; intro v4 w4 ho hb hg hat; have HM4 := Aside0.mk (HMQ.out.appT ho hb hg hat); clear ho hb hg hat)
                              go_roundw
                              case rel =>
                                refine ⟨q + 1, by go_num, by have := HLT.out; omega, ⟨?_⟩⟩
                                rw [take_rd T q HLT.out, List.map_append, ← List.append_assoc, ← HTD.out]
                                have h9 := HM4.out
                                rw [HTV.out] at h9
                                exact h9
                              case measure => have := HLT.out; simp [intOf]; omega
                            · have q1 : ¬ (q : Int) < T.length := by omega
                              have HTQ := Lib.hid (show t0 ++ (T.take q).map (fun v => (u, v)) = s2.todo by
                                rw [List.take_of_length_le (by omega)]
                                exact HTA.out.symm)
                              have HMF := Aside0.mk (show Pm w w5 wr dlo dhi bb rb pd ws (ndOf ms ls s2) bs2 rs K (ask ms (dn ls s)) u20 (.slice none 0 0) s2.todo [] by have := HMQ.out.quit; rw [HTQ.out] at this; exact this)
                              have HAW := Lib.hid (show a < ws.length by rw [HWL.out]; exact HA.out)
                              obtain ⟨adp, rfl, hpc⟩ := P_at (HPW.out wr HMF.out.old) (k := a) (by rw [HPS.out]; exact HA.out)
                              rw [p_at HAW.out] at hpc
                              obtain ⟨dd, hdd⟩ : ∃ dd : Bool, dd = dn ls s2 (rd ms a) := ⟨_, rfl⟩
                              have HDD := Lib.hid hdd
                              have HFI := Lib.hid (Inv.fine HT.out HI2.out (rd_mem ms a HA.out))
                              have hrc := begun_cell HMF.out.rg (i := a) (by rw [HS.out.2.1]; exact HA.out)
                              obtain ⟨r, hr⟩ : ∃ r, r = rs.getD a false := ⟨_, rfl⟩
                              have HRR := Lib.hid (show r = dn ls s (rd ms a) by rw [hr]; exact HS.out.2.2.2 a HA.out)
                              rw [← hr] at hrc
                              have HQ3 := Lib.hid (show k < 40000 by have := HQ2.out.2; omega)
                              clear hlt hdd hr
                              cases dd with
                              | false =>
                                go_wp2_with (go_at_call 15; refine (done_calls _ (wAt ws a).lo (wAt ws a).hi _ (ndOf ms ls s2 a) HFI.out (HMF.out.wv.is a HAW.out)).mono ?_; rintro e w6 ⟨rfl, ⟨⟨n6, rfl⟩⟩⟩; rw [dn_nd, ← HDD.out])
                                go_roundw
                                case rel =>
                                  have hsame := dn_same HDN.out.1 (show dn ls s2 (rd ms a) = dn ls s (rd ms a) by
                                    cases hx : dn ls s (rd ms a) with
                                    | false => exact HDD.out.symm
                                    | true => exact HDN.out.2 hx)
                                  exact ⟨s2, k + 1, bs2, rs, K, q2, rfl, by go_num, ⟨by have := HMF.out.drew n6; rw [ask_congr hsame] at this; exact this⟩, HI2, ⟨HS2.out.1, HS.out.2.1, HS2.out.2, fun i hi => by rw [HS.out.2.2.2 i hi]; exact hsame _ (rd_mem ms i hi)⟩, HQ2⟩
                                case measure => have := HQ3.out; simp [intOf]; omega
                              | true =>
                                cases r with
                                | true =>
                                  go_wp2_with (go_at_call 15; refine (done_calls _ (wAt ws a).lo (wAt ws a).hi _ (ndOf ms ls s2 a) HFI.out (HMF.out.wv.is a HAW.out)).mono ?_; rintro e w6 ⟨rfl, ⟨⟨n6, rfl⟩⟩⟩; rw [dn_nd, ← HDD.out])
                                  go_roundw
                                  case rel =>
                                    have hsame := dn_same HDN.out.1 (show dn ls s2 (rd ms a) = dn ls s (rd ms a) by rw [← HDD.out, ← HRR.out])
                                    exact ⟨s2, k + 1, bs2, rs, K, q2, rfl, by go_num, ⟨by have := HMF.out.drew n6; rw [ask_congr hsame] at this; exact this⟩, HI2, ⟨HS2.out.1, HS.out.2.1, HS2.out.2, fun i hi => by rw [HS.out.2.2.2 i hi]; exact hsame _ (rd_mem ms i hi)⟩, HQ2⟩
                                  case measure => have := HQ3.out; simp [intOf]; omega
                                | false =>
                                  have HRL := Lib.hid (show a < rs.length by rw [HS.out.2.1]; exact HA.out)
                                  have f2 := blk_frozen HMF.out.rg a
                                  go_upto_region 51 with (go_at_call 15; refine (done_calls _ (wAt ws a).lo (wAt ws a).hi _ (ndOf ms ls s2 a) HFI.out (HMF.out.wv.is a HAW.out)).mono ?_; rintro e w6 ⟨rfl, ⟨⟨n6, rfl⟩⟩⟩; rw [dn_nd, ← HDD.out])
                                  first
                                    | (obtain ⟨wq, hwq⟩ : ∃ wq, wq = (wr.setCell ⟨rb, a, none⟩ (.bool true)).drewN n6 := ⟨_, rfl⟩; rw [← hwq]; have HMR := Aside0.mk (show Pm w w5 wq dlo dhi bb rb pd ws (ndOf ms ls s2) bs2 (rs.set a true) K (ask ms (dn ls s)) u20 (.slice none 0 0) s2.todo [] by rw [hwq]; exact (HMF.out.ready a).drew n6))
                                    | (obtain ⟨wq, hwq⟩ : ∃ wq, wq = (wr.drewN n6).setCell ⟨rb, a, none⟩ (.bool true) := ⟨_, rfl⟩; rw [← hwq]; have HMR := Aside0.mk (show Pm w w5 wq dlo dhi bb rb pd ws (ndOf ms ls s2) bs2 (rs.set a true) K (ask ms (dn ls s)) u20 (.slice none 0 0) s2.todo [] by rw [hwq]; exact (HMF.out.drew n6).ready a))
                                  clear hwq hrc f2 hpc
                                  obtain ⟨g0, g1⟩ := P_cells (x := (0, 0)) (HGB.out wq HMR.out.old)
                                  have hA : ∃ adm, A = some adm ∧ wq.cell? (adm.add a) = some (.int .i64 (rd ms a)) := C_cell (Kd.C_below HR.out HMR.out.below) HA.out
                                  obtain ⟨adm, rfl, hcm⟩ := hA
                                  go_wp2_with (go_at_call 16; refine (Cm.ready_calls HMR.out.dk HFD.out 1 (rd ms a)).mono ?_; rintro e w7 ⟨he, hl⟩; rw [ask_ready (rd_mem ms a HA.out) HRR.out.symm] at he hl; obtain rfl : e = .returned .nilIface := he; obtain ⟨K7, hd7, hm7⟩ := hl; have HM7 := Aside0.mk (HMR.out.desk hd7 hm7); clear hd7 hm7)
                                  go_roundw
                                  case rel =>
                                    have hup := dn_upd HT.out HA.out HDN.out.1 HDD.out.symm
                                    refine ⟨s2, k + 1, bs2, rs.set a true, K7, q2, rfl, by go_num, ⟨by have := HM7.out; rw [ask_congr hup] at this; exact this⟩, HI2, ⟨HS2.out.1, by rw [List.length_set]; exact HS.out.2.1, HS2.out.2, fun i hi => ?_⟩, HQ2⟩
                                    rw [set_getD rs a i HRL.out]
                                    by_cases e : i = a
                                    · rw [if_pos e, e]; exact HDD.out
                                    · rw [if_neg e, HS.out.2.2.2 i hi]; exact (HDN.out.1 i hi e).symm
                                  case measure => have := HQ3.out; simp [intOf]; omega
                · as_aux_lemma =>
                    have HST := Lib.hid hst
                    have HALL := Lib.hid hall
                    have HASK := Lib.hid hask
                    clear hst hall hask
                    go_wp2_with (go_at_call 10; refine (Cm.state_calls HM.out.dk).mono ?_; rintro e w6 ⟨rfl, rfl⟩; rw [HST.out])
                    go_meet
                    case rel =>
                      refine ⟨s, bs, rs, K, 2, _, _, _, _, .inl rfl, ⟨by have := HM.out; rw [HASK.out, ← fin_zero HT.out.ne] at this; exact this⟩, HI, ⟨HS.out.2.1, HS.out.2.2.2⟩, fun _ => HALL.out, (by intro h; omega)⟩
            case rest =>
              obtain ⟨s, bs, rs, K, st, vT, vN, t0, T, HST, HM, HI, HRS, HFL⟩ := hcut
              have HNP := Lib.hid (show 0 < ms.length from List.length_pos_iff.2 HT.out.ne)
              have HALL := Lib.hid (show allR ms ls s ms.length = decide (st = 2) from by
                rcases HST.out with h | h
                · rw [allR_true (fun i hi => HFL.out.1 h _ (rd_mem ms i hi)), h]; rfl
                · obtain ⟨u, hu, hd⟩ := HFL.out.2 h
                  obtain ⟨i, hi, rfl⟩ := List.getElem_of_mem hu
                  rw [← rd_get ms i hi] at hd
                  rw [allR_false hi hd, h]; rfl)
              have HFF := Lib.hid (fun j => fin_fine (j := j) HST.out HT.out.m8)
              have HND := Lib.hid (MOk.nodup HT.out.mok)
              go_wp2
              go_loopw [30, 207] (fun v30 v207 wr => ∃ z : Nat, v207 = .int .i64 z ∧ z ≤ ms.length ∧ v30 = .bool (allR ms ls s z) ∧ Aside0 (Pm w w5 wr dlo dhi bb rb pd ws (ndOf ms ls s) bs rs K (fin st ms 0) vT vN t0 T)) (fun _ v _ => ms.length - (intOf v).toNat)
              case atStart => exact ⟨0, rfl, Nat.zero_le _, rfl, HM⟩
              case round =>
                obtain ⟨z, rfl, hz, rfl, HMZ⟩ := hrel
                by_cases hlt : z < ms.length
                · as_aux_lemma =>
                    have HLZ := Lib.hid hlt
                    have z0 : (0 : Int) ≤ z := by omega
                    have z1 : (z : Int) < ms.length := by omega
                    have HAW := Lib.hid (show z < ws.length by rw [HWL.out]; exact hlt)
                    have HFI := Lib.hid (Inv.fine HT.out HI.out (rd_mem ms z hlt))
                    obtain ⟨adp, rfl, hpc⟩ := P_at (HPW.out wr HMZ.out.old) (k := z) (by rw [HPS.out]; exact hlt)
                    rw [p_at HAW.out] at hpc
                    have hrc := begun_cell HMZ.out.rg (i := z) (by rw [HRS.out.1]; exact hlt)
                    rw [HRS.out.2 z hlt] at hrc
                    obtain ⟨al, hal⟩ : ∃ al, al = allR ms ls s z := ⟨_, rfl⟩
                    obtain ⟨dz, hdz⟩ : ∃ dz, dz = dn ls s (rd ms z) := ⟨_, rfl⟩
                    have HN1 := Lib.hid (show (al && dz) = allR ms ls s (z + 1) by rw [hal, hdz]; rfl)
                    have HDZ := Lib.hid hdz
                    rw [← hdz] at hrc
                    rw [← hal]
                    clear hlt hz hal hdz
                    have HSZ := Lib.hid (show (fin st ms 0).st = st by rw [fin_zero HT.out.ne])
                    rcases HST.out with h2 | h3
                    · have HS2 := Lib.hid h2
                      have HD1 := Lib.hid (show dz = true by rw [HDZ.out]; exact HFL.out.1 h2 _ (rd_mem ms z HLZ.out))
                      have HN2 := Lib.hid (show al = allR ms ls s (z + 1) by rw [← HN1.out, HD1.out, Bool.and_true])
                      rw [HD1.out] at hrc
                      clear h2
                      cases al <;>
                      · go_wp2_with (first
                          | (go_at_call 10; refine (Cm.state_calls HMZ.out.dk).mono ?_; rintro e w6 ⟨rfl, rfl⟩; rw [HSZ.out, HS2.out])
                          | (go_at_call 15; refine (done_calls _ (wAt ws z).lo (wAt ws z).hi _ (ndOf ms ls s z) HFI.out (HMZ.out.wv.is z HAW.out)).mono ?_; rintro e w6 ⟨rfl, ⟨⟨n6, rfl⟩⟩⟩; rw [dn_nd, ← HDZ.out, HD1.out]))
                        go_roundw
                        case rel => exact ⟨z + 1, by go_num, by have := HLZ.out; omega, by rw [← HN2.out], ⟨HMZ.out.drew n6⟩⟩
                        case measure => have := HLZ.out; simp [intOf]; omega
                    · have HS3 := Lib.hid h3
                      clear h3
                      cases al with
                      | false =>
                        have HN2 := Lib.hid (show false = allR ms ls s (z + 1) by rw [← HN1.out, Bool.false_and])
                        go_wp2_with (go_at_call 10; refine (Cm.state_calls HMZ.out.dk).mono ?_; rintro e w6 ⟨rfl, rfl⟩; rw [HSZ.out, HS3.out])
                        go_roundw
                        case rel => exact ⟨z + 1, by go_num, by have := HLZ.out; omega, by rw [← HN2.out], HMZ⟩
                        case measure => have := HLZ.out; simp [intOf]; omega
                      | true =>
                        have HN2 := Lib.hid (show dz = allR ms ls s (z + 1) by rw [← HN1.out, Bool.true_and])
                        go_wp2_with (go_at_call 10; refine (Cm.state_calls HMZ.out.dk).mono ?_; rintro e w6 ⟨rfl, rfl⟩; rw [HSZ.out, HS3.out])
                        go_roundw
                        case rel => exact ⟨z + 1, by go_num, by have := HLZ.out; omega, by rw [← HN2.out], HMZ⟩
                        case measure => have := HLZ.out; simp [intOf]; omega
                · as_aux_lemma =>
                    have z1 : ¬ (z : Int) < ms.length := by omega
                    obtain rfl : z = ms.length := by omega
                    rw [HALL.out]
                    have HAT := Lib.hid (fun j => fin_at (st := st) (ms := ms) (j := j))
                    clear hlt hz
                    rcases HST.out with rfl | rfl
                    · rw [show decide ((2 : Int) = 2) = true from rfl]
                      obtain ⟨g0, g1⟩ := P_cells (x := (0, 0)) (HGB.out wr HMZ.out.old)
                      have HST2 := Lib.hid (show (fin 2 ms ms.length).st = 0 by rw [fin_all])
                      go_wp2_with (go_at_call 17; refine (Cm.decided_calls HMZ.out.dk (HFF.out 0) 1).mono ?_; rintro e w6 ⟨rfl, rfl⟩; rw [HAT.out])
                      clear g0 g1
                      go_loopw [241] (fun v wr => ∃ (y : Nat) (K2 : Nat → Prop), v = .int .i64 y ∧ y ≤ ms.length ∧ Aside0 (Pm w w5 wr dlo dhi bb rb pd ws (ndOf ms ls s) bs rs K2 (fin 2 ms y) vT vN t0 T)) (fun v _ => ms.length - (intOf v).toNat)
                      case atStart => exact ⟨0, K, rfl, Nat.zero_le _, HMZ⟩
                      case round =>
                        obtain ⟨y, K2, rfl, hy, HMY⟩ := hrel
                        by_cases hly : y < ms.length
                        · have HLY := Lib.hid hly
                          have y0 : (0 : Int) ≤ y := by omega
                          have y1 : (y : Int) < ms.length := by omega
                          have hA : ∃ adm, A = some adm ∧ wr.cell? (adm.add y) = some (.int .i64 (rd ms y)) := C_cell (Kd.C_below HR.out HMY.out.below) hly
                          obtain ⟨adm, rfl, hcm⟩ := hA
                          clear hly hy
                          go_wp2_with (go_at_call 18; refine (Cm.done_calls HMY.out.dk (HFF.out y) 1 (rd ms y)).mono ?_; rintro e w7 ⟨he, hl⟩; rw [fin_done (.inl rfl) HND.out HLY.out] at he hl; obtain rfl : e = .returned .nilIface := he; obtain ⟨K7, hd7, hm7⟩ := hl; have HM7 := Aside0.mk (HMY.out.desk hd7 hm7); clear hd7 hm7)
                          go_roundw
                          case rel => exact ⟨y + 1, K7, by go_num, by have := HLY.out; omega, HM7⟩
                          case measure => have := HLY.out; simp [intOf]; omega
                        · have y1 : ¬ (y : Int) < ms.length := by omega
                          obtain rfl : y = ms.length := by omega
                          clear hly hy
                          go_wp2_with (first
                            | (go_at_call 10; refine (Cm.state_calls HMY.out.dk).mono ?_; rintro e w6 ⟨rfl, rfl⟩; rw [HST2.out])
                            | (go_at_call 17; refine (Cm.decided_calls HMY.out.dk (HFF.out _) 1).mono ?_; rintro e w6 ⟨rfl, rfl⟩; rw [HAT.out]))
                          go_ret
                          exact ⟨rfl, HMY.out.below⟩
                    · rw [show decide ((3 : Int) = 2) = false from rfl]
                      obtain ⟨g0, g1⟩ := P_cells (x := (0, 0)) (HGB.out wr HMZ.out.old)
                      have HST2 := Lib.hid (show (fin 3 ms ms.length).st = 0 by rw [fin_all])
                      go_wp2_with (go_at_call 17; refine (Cm.decided_calls HMZ.out.dk (HFF.out 0) 1).mono ?_; rintro e w6 ⟨rfl, rfl⟩; rw [HAT.out])
                      clear g0 g1
                      go_loopw [241] (fun v wr => ∃ (y : Nat) (K2 : Nat → Prop), v = .int .i64 y ∧ y ≤ ms.length ∧ Aside0 (Pm w w5 wr dlo dhi bb rb pd ws (ndOf ms ls s) bs rs K2 (fin 3 ms y) vT vN t0 T)) (fun v _ => ms.length - (intOf v).toNat)
                      case atStart => exact ⟨0, K, rfl, Nat.zero_le _, HMZ⟩
                      case round =>
                        obtain ⟨y, K2, rfl, hy, HMY⟩ := hrel
                        by_cases hly : y < ms.length
                        · have HLY := Lib.hid hly
                          have y0 : (0 : Int) ≤ y := by omega
                          have y1 : (y : Int) < ms.length := by omega
                          have hA : ∃ adm, A = some adm ∧ wr.cell? (adm.add y) = some (.int .i64 (rd ms y)) := C_cell (Kd.C_below HR.out HMY.out.below) hly
                          obtain ⟨adm, rfl, hcm⟩ := hA
                          clear hly hy
                          go_wp2_with (go_at_call 18; refine (Cm.done_calls HMY.out.dk (HFF.out y) 1 (rd ms y)).mono ?_; rintro e w7 ⟨he, hl⟩; rw [fin_done (.inr rfl) HND.out HLY.out] at he hl; obtain rfl : e = .returned .nilIface := he; obtain ⟨K7, hd7, hm7⟩ := hl; have HM7 := Aside0.mk (HMY.out.desk hd7 hm7); clear hd7 hm7)
                          go_roundw
                          case rel => exact ⟨y + 1, K7, by go_num, by have := HLY.out; omega, HM7⟩
                          case measure => have := HLY.out; simp [intOf]; omega
                        · have y1 : ¬ (y : Int) < ms.length := by omega
                          obtain rfl : y = ms.length := by omega
                          clear hly hy
                          go_wp2_with (first
                            | (go_at_call 10; refine (Cm.state_calls HMY.out.dk).mono ?_; rintro e w6 ⟨rfl, rfl⟩; rw [HST2.out])
                            | (go_at_call 17; refine (Cm.decided_calls HMY.out.dk (HFF.out _) 1).mono ?_; rintro e w6 ⟨rfl, rfl⟩; rw [HAT.out]))
                          go_ret
                          exact ⟨rfl, HMY.out.below⟩
  · have HNT := Lib.hid hT
    clear hT
    go_wp2_with (first
      | (go_at_call 4; refine (Aw.awake11_calls _).mono ?_; rintro e w1 ⟨rfl, hb⟩; have H1 := Aside0.mk (below_step HBW.out hb); have HG1 := Aside0.mk ((hb.block _ (blk_lt HBG.out)).trans HBG.out); clear hb; obtain ⟨g2, g3⟩ := P_cells (x := (0, 0)) HG1.out)
      | (go_at_call 5; refine (check15_calls _ _ _ _ _ ms ls (Kd.C_below HR.out H1.out) (Kd.C_below HL.out H1.out)).mono ?_; rintro e w2 ⟨b, X, n, cc2, cd, rfl, hb, hbl⟩; obtain rfl := (show b = true by cases b with | false => exact absurd (hb.1 rfl) HNT.out | true => rfl); have H2 := Aside0.mk (below_step H1.out hbl); have HG2 := Aside0.mk ((hbl.block _ (blk_lt HG1.out)).trans HG1.out); clear hb hbl; obtain ⟨g4, g5⟩ := P_cells (x := (0, 0)) HG2.out))
    go_ret
    exact ⟨rfl, H2.out⟩
end Go.Proofs.YtadaoplmicghcaaGreatDoor.Ph
