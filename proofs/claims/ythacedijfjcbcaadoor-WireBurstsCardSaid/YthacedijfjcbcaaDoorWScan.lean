/- wire: Scan. -/
import Derived.Test.YthacedijfjcbcaaDoorWFrame
namespace Go.Proofs.YthacedijfjcbcaaDoor
open Go.RowKit Go.Proofs.YthacedijfjcbcaaDoorW.PrintWords Go.Proofs.YthacedijfjcbcaaDoorW.PrintLast Go.Proofs.YthacedijfjcbcaaDoorW.PrintMore
set_option linter.unusedVariables false
set_option linter.unusedSimpArgs false

theorem takeF_bound (b : List UInt8) (f : Int) (h : (takeF b f).2.2 = .ok) : 0 ≤ f ∧ f + 8 ≤ (takeF b f).2.1 ∧ (takeF b f).2.1 ≤ b.length := by
  unfold takeF at h ⊢
  by_cases h0 : 0 ≤ f ∧ f ≤ b.length
  · rw [if_pos h0] at h ⊢
    have hl : (b.drop f.toNat).length = b.length - f.toNat := List.length_drop
    generalize b.drop f.toNat = r at *
    simp only at h ⊢
    by_cases h1 : r.length < 8
    · rw [if_pos h1] at h; cases h
    · rw [if_neg h1] at h ⊢
      by_cases h2 : 1048576 < numA r 0
      · rw [if_pos h2] at h; cases h
      · rw [if_neg h2] at h ⊢
        by_cases h3 : r.length - 8 < numA r 0
        · rw [if_pos h3] at h; cases h
        · rw [if_neg h3] at h ⊢
          by_cases h4 : sumN ((r.take (8 + numA r 0)).drop 8) ≠ numA r 4
          · rw [if_pos h4] at h; cases h
          · rw [if_neg h4]
            refine ⟨h0.1, ?_, ?_⟩ <;> simp <;> omega
  · rw [if_neg h0] at h; cases h
/-- Scan: the bytes of the frames in front, and where the first one that is none begins. -/
def scanF (b : List UInt8) : Nat → Int → List (List UInt8) × Int
  | 0, f => ([], f)
  | k + 1, f => match takeF b f with
    | (p, n, .ok) => (p :: (scanF b k n).1, (scanF b k n).2)
    | (_, _, _) => ([], f)
theorem scanF_ok {b : List UInt8} {k : Nat} {f n : Int} {p : List UInt8} (h : takeF b f = (p, n, .ok)) : scanF b (k + 1) f = (p :: (scanF b k n).1, (scanF b k n).2) := by
  simp only [scanF, h]
theorem scanF_bad {b : List UInt8} {k : Nat} {f : Int} (h : (takeF b f).2.2 ≠ .ok) : scanF b (k + 1) f = ([], f) := by
  rcases ht : takeF b f with ⟨p, n, er⟩
  rw [ht] at h
  cases er with
  | ok => exact absurd rfl h
  | num c => simp only [scanF, ht]
  | at_ a b c => simp only [scanF, ht]
def kBs : Kd (List UInt8) := Kd.slice 5 kB
theorem info6 : (Tryd.prog.info? 23).map (fun i => (i.zero, i.size, i.bytes)) = some (some (.slice none 0 0), 1, 24) := by kernel_rfl
/-- Lists of bytes, new. -/
def NewLists (w : World) (l : List (List UInt8)) (n : Int) (e : Ending) (w' : World) : Prop := ∃ v, e = .returned (.tuple #[v, .int .i64 n]) ∧ kBs.R 23 w' w.heap.size (fun _ => True) v l ∧ Below w.heap.size w w'
set_option maxRecDepth 100000 in
set_option maxHeartbeats 2000000 in
theorem scan_calls (w : World) (A : Option Addr) (c : Nat) (b : List UInt8) (hx : kB.C w A b.length b) (hc : b.length ≤ c) (hl : b.length ≤ 1099511627776) :
    Calls Tryd.prog 23 #[.slice A b.length c] w (NewLists w (scanF b (b.length + 1) 0).1 (scanF b (b.length + 1) 0).2) := by
  have HX := Lib.hid hx
  have HC := Lib.hid hc
  have HL := Lib.hid hl
  obtain ⟨S, hS⟩ : ∃ S, S = scanF b (b.length + 1) 0 := ⟨_, rfl⟩
  rw [← hS]
  have HS := Lib.hid hS
  clear hx hc hl hS
  go_enter Tryd.func23, Tryd.ntmps23
  go_wp2
  go_loopw [4, 5] (fun v4 v5 wr => ∃ (f : Nat) (out : List (List UInt8)), v5 = .int .i64 f ∧ f ≤ 1099511627776 ∧ Hid (f ≤ b.length ∧ out.length ≤ f ∧ ∃ k, b.length + 1 ≤ k + f ∧ S = (out ++ (scanF b k f).1, (scanF b k f).2)) ∧ Aside0 (kBs.R 23 wr w.heap.size (fun _ => True) v4 out) ∧ Aside0 (Below w.heap.size w wr)) (fun _ v _ => b.length + 1 - (intOf v).toNat)
  case atStart => exact ⟨0, [], rfl, by omega, ⟨by omega, by simp, b.length + 1, by omega, by rw [HS.out]; rfl⟩, ⟨Kd.R_nil _ _ _ _ _⟩, ⟨Below.refl _ _⟩⟩
  case round =>
    obtain ⟨f, out, rfl, hf, HI, HR, HB⟩ := hrel
    obtain ⟨t, ht⟩ : ∃ t, t = takeF b (f : Int) := ⟨_, rfl⟩
    have hbd := takeF_bound b f
    rw [← ht] at hbd
    obtain ⟨p, n, er⟩ := t
    have HT := Lib.hid ht
    by_cases he : er = .ok
    · subst he
      obtain ⟨g1, g2, g3⟩ := hbd rfl
      simp only at g2 g3
      obtain ⟨n, rfl⟩ := Int.eq_ofNat_of_zero_le (show 0 ≤ n by omega)
      have HG := Lib.hid (show f + 8 ≤ n ∧ n ≤ b.length by omega)
      clear ht hbd g1 g2 g3
      go_wp2_with (first
        | (go_at_call 21; refine (takeFrame_calls _ _ _ b f (Kd.C_below HX.out HB.out) HC.out HL.out).mono ?_; intro e w1 h1; unfold TakeFPost at h1; rw [← HT.out] at h1; obtain ⟨v, u, rfl, hp, hv, hb⟩ := h1; obtain ⟨A1, c1, rfl, hc1, _⟩ := Kd.R_reads hp; have HV : u = .nilIface := hv; subst HV; have HP := Aside0.mk hp; have HB1 := Aside0.mk hb; clear hv hb hp hc1)
        | (at_builtin; refine Kd.R_append kBs (w0 := w) w.heap.size rfl _ _ 51 23 (.slice none 0 0) 24 rfl Tryd.underlying51 info6 rfl (by decide) (by omega) u4 out p [.slice A1 p.length c1] (fun _ => True) (fun k => wr.heap.size ≤ k) rfl rfl ⟨_, rfl, Kd.R_lower (Kd.R_mono (Kd.R_bound HP.out) (fun k hk => hk.2.1)) HB.out.size⟩ ?hok (fun _ _ => trivial) (Kd.R_below HR.out HB1.out) (below_then HB.out HB.out.size HB1.out) (Nat.le_trans HB.out.size HB1.out.size) (by have := HI.out.1; have := HI.out.2.1; have := HL.out; omega) ?_; (case hok => intro k hk; refine ⟨trivial, fun h => ?_⟩; have := (Kd.R_bound HR.out).1 k h.symm; omega); intro v2 w2 hr hb2 _ _; have HR2 := Aside0.mk hr; have HB2 := Aside0.mk hb2; clear hr hb2))
      go_roundw
      case rel =>
        obtain ⟨q1, q2, k, q3, q4⟩ := HI.out
        have q5 := HG.out
        refine ⟨n, out ++ [p], rfl, by have := HL.out; omega, ⟨by omega, by simp; omega, k - 1, by omega, ?_⟩, HR2, HB2⟩
        obtain ⟨k, rfl⟩ : ∃ j, k = j + 1 := ⟨k - 1, by omega⟩
        rw [q4, scanF_ok HT.out.symm]
        simp
      case measure => have := HG.out; have := HI.out.1; simp [intOf]; omega
    · have HE := Lib.hid he
      have HK := Lib.hid (show S = (out, (f : Int)) by
        obtain ⟨q1, q2, k, q3, q4⟩ := HI.out
        obtain ⟨k, rfl⟩ : ∃ j, k = j + 1 := ⟨k - 1, by omega⟩
        rw [q4, scanF_bad (by rw [← ht]; exact he)]
        simp)
      clear ht hbd he
      go_wp2_with (go_at_call 21; refine (takeFrame_calls _ _ _ b f (Kd.C_below HX.out HB.out) HC.out HL.out).mono ?_; intro e w1 h1; unfold TakeFPost at h1; rw [← HT.out] at h1; obtain ⟨v, u, rfl, hp, hv, hb⟩ := h1; obtain ⟨A1, c1, rfl, hc1, _⟩ := Kd.R_reads hp; obtain ⟨ta, ua, rfl⟩ := IsEr.bad hv HE.out; have HB1 := Aside0.mk hb; clear hv hb hp hc1)
      go_ret2
      rw [HK.out]
      exact ⟨_, rfl, Kd.R_below HR.out HB1.out, below_then HB.out HB.out.size HB1.out⟩
end Go.Proofs.YthacedijfjcbcaaDoor
