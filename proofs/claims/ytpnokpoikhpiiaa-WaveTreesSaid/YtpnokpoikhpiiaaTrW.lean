/- A wave for each member of a tree; the law's place. -/
import Derived.Test.YtpnokpoikhpiiaaTrN
import Derived.Test.YtpnokpoikhpiiaaWvNew
import Derived.Test.YtpnokpoikhpiiaaWvOps
namespace Go.Proofs.Ytpnokpoikhpiiaa
open Go.RowKit Go.Maps Go.Proofs.YtpnokpoikhpiiaaW.PrintWords Go.Proofs.YtpnokpoikhpiiaaW.PrintLast Go.Proofs.YtpnokpoikhpiiaaW.PrintMore
open WvTree WvSim
set_option linter.unusedVariables false
set_option linter.unusedSimpArgs false
theorem pw_rises {xs : List Int} (h : xs.Pairwise (· < ·)) (hb : ∀ x ∈ xs, 0 ≤ x ∧ x < 8) : Rises xs := by
  intro j hj
  have h1 := hb _ (rd_mem xs j hj)
  refine ⟨h1.1, h1.2, fun h0 => ?_⟩
  rw [rd_get xs j hj, rd_get xs (j - 1) (by omega)]
  exact List.pairwise_iff_getElem.1 h (j - 1) j (by omega) hj (by omega)
theorem IsTree.edge_in {ms : List Int} {ls : List (Int × Int)} (T : IsTree ms ls) {u v : Int} (h : WvTree.Edge ls u v) : u ∈ ms ∧ v ∈ ms := by
  have hL := lok_mem T.lok
  rcases h with h | h
  · exact ⟨(hL _ h).2.1, (hL _ h).2.2⟩
  · exact ⟨(hL _ h).2.2, (hL _ h).2.1⟩
theorem IsTree.near_mem {ms : List Int} {ls : List (Int × Int)} (T : IsTree ms ls) {u v : Int} : v ∈ near15 ls u ↔ WvTree.Edge ls u v := by
  unfold near15 sorted15
  rw [pickTo_mem, nearOf_mem]
  constructor
  · exact fun h => h.1
  · intro h
    have := MOk.range T.mok v (T.edge_in h).2
    exact ⟨h, by omega, by omega⟩
theorem IsTree.rises {ms : List Int} {ls : List (Int × Int)} (T : IsTree ms ls) (u : Int) : Rises (near15 ls u) :=
  pw_rises (pickTo_sorted _ _) (fun x hx => MOk.range T.mok x (T.edge_in (T.near_mem.1 hx)).2)
theorem IsTree.net {ms : List Int} {ls : List (Int × Int)} (T : IsTree ms ls) : Net (WvTree.Edge ls) ms (near15 ls) :=
  ⟨fun u _ => (T.rises u).nodup, fun u v _ => T.near_mem, WvTree.Edge.symm, fun a b h => (T.edge_in h).1⟩
/-- Where a wave lies: its cell, its range of blocks. -/
structure WI where
  p : Nat
  lo : Nat
  hi : Nat
instance : Inhabited WI := ⟨⟨0, 0, 0⟩⟩
def wAt (ws : List WI) (i : Nat) : WI := ws.getD i ⟨0, 0, 0⟩
theorem wAt_app_old {ws : List WI} {x : WI} {i : Nat} (h : i < ws.length) : wAt (ws ++ [x]) i = wAt ws i := by
  simp [wAt, List.getD_eq_getElem?_getD, List.getElem?_append_left h]
theorem wAt_app_new {ws : List WI} {x : WI} : wAt (ws ++ [x]) ws.length = x := by
  simp [wAt, List.getD_eq_getElem?_getD]
def InW (ws : List WI) (k : Nat) : Prop := ∃ i, i < ws.length ∧ In (wAt ws i).lo (wAt ws i).hi k
structure Waves (w : World) (base : Nat) (ws : List WI) (nd : Nat → Nd) : Prop where
  is : ∀ i, i < ws.length → IsWave w (wAt ws i).lo (wAt ws i).hi (nd i) (wAt ws i).p
  lo : ∀ i, i < ws.length → base ≤ (wAt ws i).lo
  hi : ∀ i, i < ws.length → (wAt ws i).hi ≤ w.heap.size
  sep : ∀ i j, i < j → j < ws.length → (wAt ws i).hi ≤ (wAt ws j).lo
theorem Waves.lt {w : World} {base : Nat} {ws : List WI} {nd : Nat → Nd} (h : Waves w base ws nd) {k : Nat} (hk : InW ws k) : base ≤ k ∧ k < w.heap.size := by
  obtain ⟨i, hi, h1, h2⟩ := hk
  exact ⟨Nat.le_trans (h.lo i hi) h1, Nat.lt_of_lt_of_le h2 (h.hi i hi)⟩
theorem Waves.move {w w1 : World} {base : Nat} {ws : List WI} {nd : Nat → Nd} (h : Waves w base ws nd) (hm : ∀ k, InW ws k → w1.heap[k]? = w.heap[k]?) (hs : w.heap.size ≤ w1.heap.size) : Waves w1 base ws nd :=
  ⟨fun i hi => (h.is i hi).move fun k hk => hm k ⟨i, hi, hk⟩, h.lo, fun i hi => Nat.le_trans (h.hi i hi) hs, h.sep⟩
theorem Waves.below {w w1 : World} {base : Nat} {ws : List WI} {nd : Nat → Nd} (h : Waves w base ws nd) (hb : Below w.heap.size w w1) : Waves w1 base ws nd := h.move (fun k hk => hb.block k (h.lt hk).2) hb.size
theorem Waves.apart {w : World} {base : Nat} {ws : List WI} {nd : Nat → Nd} (h : Waves w base ws nd) {i j k : Nat} (hi : i < ws.length) (hj : j < ws.length) (hij : i ≠ j) (h1 : In (wAt ws i).lo (wAt ws i).hi k) : ¬ In (wAt ws j).lo (wAt ws j).hi k := by
  intro h2
  rcases Nat.lt_or_ge i j with hlt | hge
  · have := h.sep i j hlt hj
    have := h1.2
    have := h2.1
    omega
  · have := h.sep j i (by omega) hi
    have := h2.2
    have := h1.1
    omega
def updN (nd : Nat → Nd) (i : Nat) (x : Nd) : Nat → Nd := fun j => if j = i then x else nd j
theorem Waves.one {w w1 : World} {base : Nat} {ws : List WI} {nd : Nat → Nd} (h : Waves w base ws nd) {i : Nat} (hi : i < ws.length) {x : Nd} (hx : IsWave w1 (wAt ws i).lo (wAt ws i).hi x (wAt ws i).p) (hk : Kept w w1 (In (wAt ws i).lo (wAt ws i).hi)) : Waves w1 base ws (updN nd i x) := by
  refine ⟨fun j hj => ?_, h.lo, fun j hj => Nat.le_trans (h.hi j hj) hk.1, h.sep⟩
  unfold updN
  by_cases e : j = i
  · subst e; rw [if_pos rfl]; exact hx
  · rw [if_neg e]
    exact (h.is j hj).move fun k hk' => hk.2 k (Nat.lt_of_lt_of_le hk'.2 (h.hi j hj)) (h.apart hj hi e hk')
theorem Waves.snoc {w : World} {base : Nat} {ws : List WI} {nd : Nat → Nd} (h : Waves w base ws nd) {x : WI} (hx : IsWave w x.lo x.hi (nd ws.length) x.p) (h1 : base ≤ x.lo) (h2 : x.hi ≤ w.heap.size) (h3 : ∀ i, i < ws.length → (wAt ws i).hi ≤ x.lo) : Waves w base (ws ++ [x]) nd := by
  refine ⟨fun i hi => ?_, fun i hi => ?_, fun i hi => ?_, fun i j hij hj => ?_⟩
  · by_cases e : i < ws.length
    · rw [wAt_app_old e]; exact h.is i e
    · have e2 : i = ws.length := by simp at hi; omega
      subst e2; rw [wAt_app_new]; exact hx
  · by_cases e : i < ws.length
    · rw [wAt_app_old e]; exact h.lo i e
    · have e2 : i = ws.length := by simp at hi; omega
      subst e2; rw [wAt_app_new]; exact h1
  · by_cases e : i < ws.length
    · rw [wAt_app_old e]; exact h.hi i e
    · have e2 : i = ws.length := by simp at hi; omega
      subst e2; rw [wAt_app_new]; exact h2
  · have hi2 : i < ws.length := by simp at hj; omega
    rw [wAt_app_old hi2]
    by_cases e : j < ws.length
    · rw [wAt_app_old e]; exact h.sep i j hij e
    · have e2 : j = ws.length := by simp at hj; omega
      subst e2; rw [wAt_app_new]; exact h3 i hi2
theorem Waves.ext {w : World} {base : Nat} {ws : List WI} {nd nd' : Nat → Nd} (h : Waves w base ws nd) (he : ∀ i, i < ws.length → nd' i = nd i) : Waves w base ws nd' := ⟨fun i hi => by rw [he i hi]; exact h.is i hi, h.lo, h.hi, h.sep⟩
/-- A row of pointers to waves. -/
def kP : Kd Nat := Kd.scalar (fun p => .pointer (some ⟨p, 0, none⟩)) (fun _ => rfl)
theorem P_at {w : World} {A : Option Addr} {ps : List Nat} (h : kP.C w A ps.length ps) {k : Nat} (hk : k < ps.length) : ∃ ad, A = some ad ∧ w.cell? (ad.add k) = some (.pointer (some ⟨ps.getD k 0, 0, none⟩)) := by
  obtain ⟨ad, c, e, _, hK, hc0⟩ := Kd.C_get h 0 (k : Int) (by omega) (by omega)
  have hc : c = [Value.pointer (some ⟨ps.getD (k : Int).toNat 0, 0, none⟩)] := hK
  subst hc
  have := hc0 0 _ rfl
  rw [Int.toNat_natCast] at this
  exact ⟨ad, e, by simpa [kP, Kd.scalar] using this⟩
theorem infoP : (Try.prog.info? 39).map (fun i => (i.zero, i.size, i.bytes)) = some (some (.pointer none), 1, 8) := by kernel_rfl
/-- A row of elements that lead nowhere is its own block alone. -/
theorem R_own_move {α : Type} {dd : Kd α} (hd : ∀ {w w1 : World} {base : Nat} {ok ok' : Nat → Prop} {x : α} {cs : List Value}, dd.M w base ok x cs → dd.M w1 base ok' x cs) {e base : Nat} {ok : Nat → Prop} {w w1 : World} {v : Value} {xs : List α} (h : dd.R e w base ok v xs) (hm : ∀ k, v.ownBlock = some k → w1.heap[k]? = w.heap[k]?) : dd.R e w1 base ok v xs := by
  obtain ⟨h0, inner, ho, hr⟩ := h
  exact ⟨h0, inner, own_move ho hm, hr.imp_ (fun _ _ hp => hd hp)⟩
theorem R_own_lt {α : Type} {dd : Kd α} {e base : Nat} {ok : Nat → Prop} {w : World} {v : Value} {xs : List α} (h : dd.R e w base ok v xs) {k : Nat} (hk : v.ownBlock = some k) : base ≤ k ∧ k < w.heap.size := by
  have := (Kd.R_bound h).1 k hk
  exact ⟨this.2.1, this.2.2.1⟩
set_option maxRecDepth 100000 in
set_option maxHeartbeats 2000000 in
theorem waves_calls (w : World) (A B : Option Addr) (c d : Nat) (ms : List Int) (ls : List (Int × Int)) (hr : (Kd.int .i64).C w A ms.length ms) (hl : kLk.C w B ls.length ls) (hT : IsTree ms ls) :
    Calls Try.prog 7 #[.agg #[.slice A ms.length c, .slice B ls.length d]] w fun en w' => ∃ (v : Value) (ws : List WI), en = .returned v ∧ ws.length = ms.length ∧ kP.R 39 w' w.heap.size (fun _ => True) v (ws.map WI.p) ∧ Waves w' w.heap.size ws (fun i => ⟨near15 ls (rd ms i), [], [], false⟩) ∧ (∀ k, v.ownBlock = some k → ¬ InW ws k) ∧ Below w.heap.size w w' := by
  have HR := Lib.hid hr
  have HL := Lib.hid hl
  have HT := Lib.hid hT
  have hm : (ms.length : Int) ≤ 8 := by have := hT.m8; omega
  clear hr hl hT
  go_enter Try.func7, Try.ntmps7
  go_upto_region 1 with (fail)
  obtain ⟨wz, hwz⟩ : ∃ wz, wz = w.alloc (.cells #[.slice A ms.length c, .slice B ls.length d] 25) := ⟨_, rfl⟩
  rw [← hwz]
  have HSZ := Lib.hid (show wz.heap.size = w.heap.size + 1 by rw [hwz, alloc_sz])
  have HBG := Aside0.mk (show wz.heap[w.heap.size]? = some (.cells #[.slice A ms.length c, .slice B ls.length d] 25 (0, 0)) by rw [hwz]; exact heap_alloc_new _ _)
  have HBW := Aside0.mk (show Below w.heap.size w wz by rw [hwz]; exact below_alloc (Below.refl _ _) _)
  clear hwz
  obtain ⟨g0, g1⟩ := P_cells (x := (0, 0)) HBG.out
  go_wp2
  clear g0 g1
  go_loopw [3, 13] (fun v3 v13 wr => ∃ (k : Nat) (ws : List WI), v13 = .int .i64 k ∧ k ≤ ms.length ∧ ws.length = k ∧ Aside0 (kP.R 39 wr wz.heap.size (fun _ => True) v3 (ws.map WI.p)) ∧ Aside0 (Waves wr wz.heap.size ws (fun i => ⟨near15 ls (rd ms i), [], [], false⟩)) ∧ Hid (∀ k, v3.ownBlock = some k → ¬ InW ws k) ∧ Aside0 (Below wz.heap.size wz wr)) (fun _ v _ => ms.length - (intOf v).toNat)
  case atStart => exact ⟨0, [], rfl, Nat.zero_le _, rfl, ⟨Kd.R_nil _ _ _ _ _⟩, ⟨⟨fun i hi => by simp at hi, fun i hi => by simp at hi, fun i hi => by simp at hi, fun i j _ hj => by simp at hj⟩⟩, (fun k hk => by simp [Value.ownBlock] at hk), ⟨Below.refl _ _⟩⟩
  case round =>
    obtain ⟨k, ws, rfl, hk, hwl, HK, HWV, HOW, HB⟩ := hrel
    by_cases hlt : k < ms.length
    · have HRB := Lib.hid (Kd.C_below HR.out (below_step HBW.out HB.out))
      have HLB := Lib.hid (Kd.C_below HL.out (below_step HBW.out HB.out))
      have hrb := HRB.out
      have hA : ∃ ad, A = some ad ∧ wr.cell? (ad.add k) = some (.int .i64 (rd ms k)) := C_cell hrb hlt
      obtain ⟨ad, rfl, hc⟩ := hA
      obtain ⟨u, hu⟩ : ∃ u, u = rd ms k := ⟨_, rfl⟩
      rw [← hu] at hc
      have HU := Lib.hid hu
      have HUM := Lib.hid (show u ∈ ms by rw [hu]; exact rd_mem ms k hlt)
      have HRI := Lib.hid (HT.out.rises u)
      have HNL := Lib.hid (length_small HRI.out.nodup HRI.out.bound)
      have k0 : (0 : Int) ≤ k := by omega
      have k1 : (k : Int) < ms.length := by omega
      have HLT := Lib.hid hlt
      have HWL := Lib.hid hwl
      obtain ⟨g0, g1⟩ := P_cells (x := (0, 0)) ((HB.out.block _ (by rw [HSZ.out]; omega)).trans HBG.out)
      obtain ⟨N, hN⟩ : ∃ N, N = near15 ls u := ⟨_, rfl⟩
      have HN := Lib.hid hN
      rw [← hN] at HRI HNL
      clear hlt hu hwl hrb hN
      go_wp2_with (first
        | (go_at_call 19; refine (near2_calls wr _ _ _ _ ms ls u HRB.out HLB.out HT.out HUM.out).mono ?_; rintro en w1 ⟨v1, X, n1, cc, cd, rfl, hR, hbl⟩; rw [← HN.out] at hR; obtain ⟨A1, c1, rfl⟩ := Kd.R_slice hR; have HC1 := Lib.hid (Kd.R_reads' hR).2.2; have H1 := Aside0.mk hbl; clear hR hbl)
        | (go_at_call 12; refine (new_calls _ _ _ N (Kd.C_alloc HC1.out _) (by have := HNL.out; omega)).mono ?_; intro en w2 hnp; obtain ⟨p, rfl, hW, hbl⟩ := hnp.1 HRI.out; have HW2 := Aside0.mk hW; have H2 := Aside0.mk hbl; have HLO := Lib.hid (show wr.heap.size ≤ (w1.alloc (.cells #[.bool false, .slice X n1 cc, .int .i64 cd] 30)).heap.size by rw [alloc_sz]; have := H1.out.size; omega); have HBR := Aside0.mk (show Below wr.heap.size wr w2 from below_step (below_alloc H1.out _) hbl); clear hnp hW hbl)
        | (at_builtin; refine Kd.R_append kP (w0 := wz) (W := w2) wz.heap.size rfl _ _ 32 39 (.pointer none) 8 rfl Try.underlying32 infoP rfl (by decide) (by omega) _ (ws.map WI.p) p [.pointer (some ⟨p, 0, none⟩)] (fun _ => True) (fun _ => False) rfl rfl rfl (fun _ hk => hk.elim) (fun _ _ => trivial) (by exact Kd.R_below HK.out HBR.out) (below_step HB.out HBR.out) (Nat.le_trans HB.out.size HBR.out.size) (by simp; have := HWL.out; have := HLT.out; have := HT.out.m8; omega) ?_; intro v3 w3 ho hb hg hat; have HO := Aside0.mk ho; have HB3 := Aside0.mk hb; have HGR := Aside0.mk hg; have HAT := Lib.hid hat; clear ho hb hg hat))
      clear g0 g1 hc
      go_roundw
      case rel =>
        have hwv := HWV.out.below HBR.out
        have hold : ∀ q, u3.ownBlock = some q → q < wr.heap.size := fun q hq => (R_own_lt HK.out hq).2
        have hsn : Waves w2 wz.heap.size (ws ++ [⟨p, _, w2.heap.size⟩]) (fun i => ⟨near15 ls (rd ms i), [], [], false⟩) := hwv.snoc (x := ⟨p, _, w2.heap.size⟩) (by show IsWave _ _ _ ⟨near15 ls (rd ms ws.length), [], [], false⟩ _; rw [HWL.out, ← HU.out, ← HN.out]; exact HW2.out) (Nat.le_trans HB.out.size HLO.out) (Nat.le_refl _) (fun i hi => Nat.le_trans (HWV.out.hi i hi) HLO.out)
        have hnot : ∀ q, u3.ownBlock = some q → ¬ InW (ws ++ [(⟨p, (w1.alloc (.cells #[.bool false, .slice X n1 cc, .int .i64 cd] 30)).heap.size, w2.heap.size⟩ : WI)]) q := by
          rintro q hq ⟨i, hi, hin⟩
          by_cases e : i < ws.length
          · rw [wAt_app_old e] at hin
            exact HOW.out q hq ⟨i, e, hin⟩
          · have e2 : i = ws.length := by simp at hi; omega
            subst e2
            rw [wAt_app_new] at hin
            have := hold q hq
            have := hin.1
            have := HLO.out
            simp only at *
            omega
        refine ⟨k + 1, ws ++ [⟨p, _, w2.heap.size⟩], by go_num, by have := HLT.out; omega, by simp [HWL.out], ⟨by rw [List.map_append]; exact HO.out⟩, ⟨hsn.move (fun q hq => HGR.out.block q (hsn.lt hq).2 (fun he => hnot q he.symm hq)) HGR.out.size⟩, ?_, HB3⟩
        intro q hq hin
        rcases HAT.out with he | ⟨b, he, hb⟩
        · rw [he] at hq
          exact hnot q hq hin
        · rw [he] at hq
          cases hq
          have := (hsn.lt hin).2
          omega
      case measure => have := HLT.out; simp [intOf]; omega
    · have k1 : ¬ (k : Int) < ms.length := by omega
      have HH := Lib.hid (show ws.length = ms.length by omega)
      clear hlt hwl
      go_wp2
      go_ret
      exact ⟨_, rfl, ws, HH.out, Kd.R_lower HK.out HBW.out.size, ⟨HWV.out.is, fun i hi => Nat.le_trans HBW.out.size (HWV.out.lo i hi), HWV.out.hi, HWV.out.sep⟩, HOW.out, below_step HBW.out HB.out⟩
end Go.Proofs.Ytpnokpoikhpiiaa
