/- link: read of a packet that was put together of two numbers and messages. -/
import Derived.Test.YtcdhjkkdenhmcaaLkG
import Derived.Test.YtcdhjkkdenhmcaaLkU
namespace Go.Proofs.Ytcdhjkkdenhmcaa
open Go.RowKit Go.Proofs.YtcdhjkkdenhmcaaW.PrintWords Go.Proofs.YtcdhjkkdenhmcaaW.PrintLast Go.Proofs.YtcdhjkkdenhmcaaW.PrintMore
set_option linter.unusedVariables false
set_option linter.unusedSimpArgs false
theorem takeB_more (pre p rest : List UInt8) (hp : p.length ≤ 1048576) : takeB (pre ++ (uintsF p.length ++ (p ++ rest))) (pre.length : Nat) = (p, ((pre.length + (uintsF p.length).length + p.length : Nat) : Int), .ok) := by
  unfold takeB
  rw [takeU_uints pre (p ++ rest) p.length (by omega)]
  simp only []
  rw [if_neg (by omega), if_neg (by simp; omega), Int.toNat_natCast]
  have e : (pre ++ (uintsF p.length ++ (p ++ rest))) = (pre ++ uintsF p.length) ++ (p ++ rest) := by simp
  rw [e, ← List.length_append, List.take_append, List.take_of_length_le (by omega), Nat.add_sub_cancel_left, List.drop_left, List.take_left]
  simp
theorem putAll_pre (b : List UInt8) : ∀ (l : List (List UInt8)), putAll b l = b ++ putAll [] l := by
  intro l
  induction l generalizing b with
  | nil => simp [putAll]
  | cons m l ih =>
    show putAll (b ++ uintsF m.length ++ m) l = b ++ putAll ([] ++ uintsF m.length ++ m) l
    rw [ih, ih ([] ++ uintsF m.length ++ m)]
    simp
theorem putAll_split (b : List UInt8) (l : List (List UInt8)) (k : Nat) (h : k < l.length) : putAll b l = putAll b (l.take k) ++ (uintsF (gl l k).length ++ (gl l k ++ putAll [] (l.drop (k + 1)))) := by
  have e : l = l.take (k + 1) ++ l.drop (k + 1) := (List.take_append_drop _ _).symm
  have h2 : putAll b l = putAll (putAll b (l.take (k + 1))) (l.drop (k + 1)) := by
    conv => lhs; rw [e]
    exact List.foldl_append
  rw [h2, putAll_pre, putAll_step b l k h]
  simp
theorem putAll_short (b : List UInt8) (l : List (List UInt8)) (hs : ∀ m ∈ l, m.length ≤ 1000) : (putAll b l).length ≤ b.length + 1010 * l.length := by
  induction l generalizing b with
  | nil => simp [putAll]
  | cons m l ih =>
    have h1 := ih (b ++ uintsF m.length ++ m) (fun x hx => hs x (List.mem_cons_of_mem _ hx))
    have h2 := hs m List.mem_cons_self
    have h3 := (uintsF_len m.length (by omega)).2
    simp only [List.length_append, List.length_cons] at h1 ⊢
    show (putAll (b ++ uintsF m.length ++ m) l).length ≤ _
    omega
set_option maxRecDepth 100000 in
set_option maxHeartbeats 2000000 in
theorem read_calls (w : World) (A : Option Addr) (c a b : Nat) (ms : List (List UInt8)) (p : List UInt8) (hp : p = putAll (uintsF a ++ uintsF b) ms) (hx : kB.C w A p.length p) (hc : p.length ≤ c) (ha : a ≤ 100000) (hb : b ≤ 100000) (hs : ∀ m ∈ ms, m.length ≤ 1000) (hl : ms.length ≤ 100) :
    Calls Try.prog 22 #[.slice A p.length c] w fun e w' => ∃ v, e = .returned (.tuple #[.int .i64 a, .int .i64 b, v, .nilIface]) ∧ kBs.R 29 w' w.heap.size (fun _ => True) v ms ∧ Below w.heap.size w w' := by
  have HX := Aside0.mk hx
  have HC := Lib.hid hc
  have HS := Lib.hid hs
  have HP := Lib.hid hp
  have HLN := Lib.hid hl
  have hpl := putAll_short (uintsF a ++ uintsF b) ms hs
  rw [← hp, List.length_append] at hpl
  have hua := (uintsF_len a (by omega)).2
  have hub := (uintsF_len b (by omega)).2
  have HPL := Lib.hid (show p.length ≤ 101020 by omega)
  have pl : (p.length : Int) ≤ 101020 := by have := HPL.out; omega
  have HT1 := Lib.hid (show takeU p 0 = (a, (((uintsF a).length : Nat) : Int), .ok) by
    have h := takeU_uints [] (uintsF b ++ putAll [] ms) a (by omega)
    rw [hp, putAll_pre]
    simpa using h)
  have HT2 := Lib.hid (show takeU p (((uintsF a).length : Nat) : Int) = (b, (((uintsF a ++ uintsF b).length : Nat) : Int), .ok) by
    have h := takeU_uints (uintsF a) (putAll [] ms) b (by omega)
    rw [hp, putAll_pre, List.append_assoc, h, List.length_append])
  obtain ⟨n1, hn1⟩ : ∃ n1, n1 = (uintsF a).length := ⟨_, rfl⟩
  obtain ⟨hd, hhd⟩ : ∃ hd, hd = uintsF a ++ uintsF b := ⟨_, rfl⟩
  obtain ⟨n2, hn2⟩ : ∃ n2, n2 = hd.length := ⟨_, rfl⟩
  have HN2 := Lib.hid hn2
  rw [← hn1] at HT1
  rw [← hn1, ← hhd, ← hn2] at HT2
  rw [← hhd] at HP
  have n1b : (n1 : Int) ≤ 10 := by omega
  have n2b : (n2 : Int) ≤ 20 := by rw [hn2, hhd, List.length_append]; omega
  have ga : ¬ (a : Int) > 1099511627776 := by omega
  have gb' : ¬ (b : Int) > 1099511627776 := by omega
  have gac : decide ((a : Int) > 1099511627776) = false := decide_eq_false ga
  have gbc : decide ((b : Int) > 1099511627776) = false := decide_eq_false gb'
  have gad : ¬ a > 1099511627776 := by omega
  have gbd : ¬ b > 1099511627776 := by omega
  have wa1 : IntKind.i64.wrap (a : Int) = a := by rw [IntKind.wrap_i64]; omega
  have wb1 : IntKind.i64.wrap (b : Int) = b := by rw [IntKind.wrap_i64]; omega
  clear hx hc hs hp hl hpl hua hub hn1 hhd hn2
  go_enter Try.func22, Try.ntmps22
  go_wp2_with (first
    | (go_at_call 30; refine (takeUint_calls w2 _ _ p (n1 : Int) (Kd.C_below HX.out H2.out) HC.out (by have := HPL.out; omega)).mono ?_; intro e w3 h; unfold TakeUPost at h; rw [HT2.out] at h; obtain ⟨v, rfl, hv, hb⟩ := h; obtain rfl := hv; have H3 := Aside0.mk (below_step H2.out hb); clear hb)
    | (go_at_call 30; refine (takeUint_calls w _ _ p 0 HX.out HC.out (by have := HPL.out; omega)).mono ?_; intro e w2 h; unfold TakeUPost at h; rw [HT1.out] at h; obtain ⟨v, rfl, hv, hb⟩ := h; obtain rfl := hv; have H2 := Aside0.mk hb; clear hb))
  go_loopw [7, 8, 10] (fun v7 v8 v10 wr => ∃ (k n : Nat), v7 = .int .i64 n ∧ v8 = .nilIface ∧ k ≤ ms.length ∧ Hid (n = (putAll hd (ms.take k)).length ∧ n ≤ p.length) ∧ Aside0 (kBs.R 29 wr w.heap.size (fun _ => True) v10 (ms.take k)) ∧ Aside0 (Below w.heap.size w wr)) (fun v _ _ _ => p.length - (intOf v).toNat)
  case atStart =>
    refine ⟨0, n2, rfl, rfl, Nat.zero_le _, ⟨?_, ?_⟩, ⟨by rw [List.take_zero]; exact Kd.R_nil _ _ _ _ _⟩, H3⟩
    · rw [HN2.out, List.take_zero]; rfl
    · rw [HN2.out, HP.out, putAll_pre, List.length_append]; omega
  case round =>
    obtain ⟨k, n, rfl, rfl, hk, HN, HK, HB⟩ := hrel
    by_cases hlt : k < ms.length
    · obtain ⟨m, hm⟩ : ∃ m, m = gl ms k := ⟨_, rfl⟩
      obtain ⟨rest, hrest⟩ : ∃ rest, rest = putAll [] (ms.drop (k + 1)) := ⟨_, rfl⟩
      have HML := Lib.hid (show m.length ≤ 1000 from HS.out m (by rw [hm, gl_get ms k hlt]; exact List.getElem_mem hlt))
      have hpe : p = putAll hd (ms.take k) ++ (uintsF m.length ++ (m ++ rest)) := by rw [HP.out, hm, hrest]; exact putAll_split hd ms k hlt
      obtain ⟨n', hn'⟩ : ∃ n', n' = n + (uintsF m.length).length + m.length := ⟨_, rfl⟩
      have hu := (uintsF_len m.length (by have := HML.out; omega)).1
      have HTB := Lib.hid (show takeB p (n : Int) = (m, (n' : Int), .ok) by
        rw [hn', HN.out.1, hpe]
        exact takeB_more _ m rest (by have := HML.out; omega))
      have hpl : p.length = n + (uintsF m.length).length + m.length + rest.length := by
        rw [hpe, HN.out.1]
        simp only [List.length_append]
        omega
      have HN' := Lib.hid (show n' = (putAll hd (ms.take (k + 1))).length ∧ n' ≤ p.length ∧ n < n' by
        refine ⟨?_, by omega, by omega⟩
        rw [putAll_step hd ms k hlt, ← hm, hn', HN.out.1]
        simp only [List.length_append])
      have HTK := Lib.hid (show ms.take (k + 1) = ms.take k ++ [m] by rw [List.take_succ_eq_append_getElem hlt, hm, gl_get ms k hlt])
      have HKL := Lib.hid (show (ms.take k).length ≤ 100 by have := List.length_take_le' k ms; have := HLN.out; omega)
      obtain ⟨mk, hmk⟩ : ∃ mk, mk = ms.take k := ⟨_, rfl⟩
      rw [← hmk] at HTK HKL HK
      have k1 : (n : Int) < p.length := by omega
      have n0 : (0 : Int) ≤ n := by omega
      have HLT := Lib.hid hlt
      clear hlt hm hrest hpe hn' hu hpl hmk
      go_wp2_with (first
        | (go_at_call 31; refine (takeBytes_calls _ _ _ p (n : Int) (Kd.C_below HX.out HB.out) HC.out (by have := HPL.out; omega)).mono ?_; intro e w4 h; unfold TakeBPost at h; rw [HTB.out] at h; obtain ⟨q, v, rfl, hq, hv, hb⟩ := h; obtain rfl := hv; obtain ⟨A1, c1, rfl, hc1, _⟩ := Kd.R_reads hq; have HQ := Aside0.mk hq; have HC1 := Lib.hid hc1; have HB4 := Aside0.mk hb; clear hq hc1 hb)
        | (at_builtin; refine Kd.R_append kBs (w0 := w) (W := w4) w.heap.size rfl _ _ 22 29 (.slice none 0 0) 24 rfl Try.underlying22 info6 rfl (by decide) (by omega) _ mk m [.slice A1 m.length c1] (fun _ => True) (fun k => wr.heap.size ≤ k) rfl rfl ⟨_, rfl, Kd.R_lower (Kd.R_mono (Kd.R_bound HQ.out) (fun k hk => hk.2.1)) HB.out.size⟩ ?hok (fun _ _ => trivial) (by exact Kd.R_below HK.out HB4.out) (below_step HB.out HB4.out) (Nat.le_trans HB.out.size HB4.out.size) (by have := HKL.out; omega) ?_; (case hok => intro k hk; refine ⟨trivial, fun h => ?_⟩; have := ((Kd.R_bound HK.out).1 k h.symm).2.2.1; omega); intro v5 w5 hr hb5 hg5 hat5; have HR5 := Aside0.mk hr; have HB5 := Aside0.mk hb5; clear hr hb5 hg5 hat5))
      go_roundw
      case rel => exact ⟨k + 1, n', rfl, rfl, by have := HLT.out; omega, ⟨HN'.out.1, HN'.out.2.1⟩, by rw [HTK.out]; exact HR5, HB5⟩
      case measure => have h1 := HN'.out.2.1; have h2 := HN'.out.2.2; simp [intOf]; omega
    · have HMS := Lib.hid (show ms.take k = ms from List.take_of_length_le (by omega))
      have hnp : n = p.length := by rw [HN.out.1, HMS.out, HP.out]
      have k1 : ¬ (n : Int) < p.length := by omega
      rw [HMS.out] at HK
      clear hlt hnp
      go_wp2
      exact bodyPost_ret (v := .tuple #[.int .i64 a, .int .i64 b, u10, .nilIface]) (by simp [results, Try.results22, go_sem]) rfl ⟨_, rfl, HK.out, HB.out⟩
end Go.Proofs.Ytcdhjkkdenhmcaa
