/- link: what stands of two sides, whatever happened (plain law). -/
import Derived.Test.YtcdhjkkdenhmcaaLkRi
namespace Go.Proofs.Ytcdhjkkdenhmcaa
open Go.RowKit Go.Proofs.YtcdhjkkdenhmcaaW.PrintWords Go.Proofs.YtcdhjkkdenhmcaaW.PrintLast Go.Proofs.YtcdhjkkdenhmcaaW.PrintMore
set_option linter.unusedVariables false
set_option linter.unusedSimpArgs false
/-- What is under way to x, from y. -/
structure Under (x y : Sd) (q : List UInt8 × Int) (a b : Nat) (ms : List (List UInt8)) : Prop where
  eq : q = (putAll (uintsF a ++ uintsF b) ms, (a : Int))
  ga : a ≤ y.si
  gb : b + ms.length ≤ y.so
  gm : ms = (y.out.take (b + ms.length)).drop b
  gl : ms.length ≤ 64
structure Half (x y : Sd) : Prop where
  so1 : x.so ≤ x.out.length
  to1 : x.tld ≤ x.so
  si1 : x.si ≤ x.inn.length
  pre : x.inn = y.out.take x.inn.length
  len : x.inn.length ≤ y.so
  tsi : x.tld ≤ y.si
  short : ∀ m ∈ x.out, m.length ≤ 100
  und : ∀ q ∈ x.und, ∃ a b ms, Under x y q a b ms
structure Inv (W n : Nat) (x y : Sd) : Prop where
  w1 : 1 ≤ W
  w2 : W ≤ 64
  a : Half x y
  b : Half y x
  na : x.out.length ≤ n
  nb : y.out.length ≤ n
  ua : x.und.length ≤ n
  ub : y.und.length ≤ n
theorem Inv.flip {W n : Nat} {x y : Sd} (h : Inv W n x y) : Inv W n y x := ⟨h.w1, h.w2, h.b, h.a, h.nb, h.na, h.ub, h.ua⟩
theorem Inv.fine {W n : Nat} {x y : Sd} (h : Inv W n x y) (hn : n ≤ 1000) : EnFine (enOf W x) :=
  ⟨h.w1, h.w2, by have := h.na; show x.out.length ≤ 100000; omega, h.a.so1, h.a.to1, by have := h.a.len; have := h.b.so1; have := h.nb; show x.inn.length ≤ 100000; omega, h.a.si1⟩
/-- The other side went on. -/
theorem Half.other {x y y' : Sd} (h : Half x y) (hso : y.so ≤ y'.so) (hsi : y.si ≤ y'.si) (hout : ∀ k, k ≤ y.so → y'.out.take k = y.out.take k) : Half x y' :=
  ⟨h.so1, h.to1, h.si1, by rw [hout _ h.len]; exact h.pre, Nat.le_trans h.len hso, Nat.le_trans h.tsi hsi, h.short, fun q hq => by
    obtain ⟨a, b, ms, u⟩ := h.und q hq
    exact ⟨a, b, ms, u.eq, Nat.le_trans u.ga hsi, Nat.le_trans u.gb hso, by rw [hout _ u.gb]; exact u.gm, u.gl⟩⟩
/-- Of this side only what is under way is another. -/
theorem Half.under {x y : Sd} (h : Half x y) (l : List (List UInt8 × Int)) (r : Bool) (hl : ∀ q ∈ l, ∃ a b ms, Under x y q a b ms) : Half { x with und := l, rcv := r } y :=
  ⟨h.so1, h.to1, h.si1, h.pre, h.len, h.tsi, h.short, fun q hq => by
    obtain ⟨a, b, ms, u⟩ := hl q hq
    exact ⟨a, b, ms, u.eq, u.ga, u.gb, u.gm, u.gl⟩⟩
theorem Inv.more {W n m : Nat} {x y : Sd} (h : Inv W n x y) (hm : n ≤ m) : Inv W m x y := ⟨h.w1, h.w2, h.a, h.b, Nat.le_trans h.na hm, Nat.le_trans h.nb hm, Nat.le_trans h.ua hm, Nat.le_trans h.ub hm⟩
def Sd.push (x : Sd) (p : List UInt8) : Sd := { x with out := x.out ++ [p] }
theorem Inv.push {W n : Nat} {x y : Sd} (h : Inv W n x y) {p : List UInt8} (hp : p.length ≤ 100) : Inv W (n + 1) (x.push p) y := by
  refine ⟨h.w1, h.w2, ⟨?_, h.a.to1, h.a.si1, h.a.pre, h.a.len, h.a.tsi, fun m hm => ?_, fun q hq => ?_⟩, h.b.other (Nat.le_refl _) (Nat.le_refl _) (fun k hk => ?_), ?_, Nat.le_succ_of_le h.nb, Nat.le_succ_of_le h.ua, Nat.le_succ_of_le h.ub⟩
  · have := h.a.so1; show x.so ≤ (x.out ++ [p]).length; rw [List.length_append]; omega
  · have hm' : m ∈ x.out ++ [p] := hm
    rcases List.mem_append.1 hm' with hm' | hm'
    · exact h.a.short m hm'
    · rw [List.mem_singleton.1 hm']; exact hp
  · obtain ⟨a, b, ms, u⟩ := h.a.und q hq
    exact ⟨a, b, ms, u.eq, u.ga, u.gb, u.gm, u.gl⟩
  · exact List.take_append_of_le_length (Nat.le_trans hk h.a.so1)
  · have := h.na; show (x.out ++ [p]).length ≤ n + 1; rw [List.length_append]; simp; exact this
def Sd.commit (x : Sd) : Sd := { x with so := x.out.length, si := x.inn.length }
theorem Inv.commit {W n : Nat} {x y : Sd} (h : Inv W n x y) : Inv W n x.commit y := by
  refine ⟨h.w1, h.w2, ⟨Nat.le_refl _, Nat.le_trans h.a.to1 h.a.so1, Nat.le_refl _, h.a.pre, h.a.len, h.a.tsi, h.a.short, fun q hq => ?_⟩, h.b.other h.a.so1 h.a.si1 (fun _ _ => rfl), h.na, h.nb, h.ua, h.ub⟩
  obtain ⟨a, b, ms, u⟩ := h.a.und q hq
  exact ⟨a, b, ms, u.eq, u.ga, u.gb, u.gm, u.gl⟩
def Sd.crash (x : Sd) : Sd := { x with out := x.out.take x.so, inn := x.inn.take x.si, tld := 0, rcv := false }
theorem Inv.crash {W n : Nat} {x y : Sd} (h : Inv W n x y) : Inv W n x.crash y := by
  have hlo : (x.out.take x.so).length = x.so := List.length_take_of_le h.a.so1
  have hli : (x.inn.take x.si).length = x.si := List.length_take_of_le h.a.si1
  refine ⟨h.w1, h.w2, ⟨by show x.so ≤ (x.out.take x.so).length; omega, Nat.zero_le _, by show x.si ≤ (x.inn.take x.si).length; omega, ?_, ?_, Nat.zero_le _, fun m hm => h.a.short m (List.mem_of_mem_take hm), fun q hq => ?_⟩, h.b.other (Nat.le_refl _) (Nat.le_refl _) (fun k hk => ?_), ?_, h.nb, h.ua, h.ub⟩
  · show x.inn.take x.si = y.out.take (x.inn.take x.si).length
    rw [hli]
    conv => lhs; rw [h.a.pre]
    rw [List.take_take, Nat.min_eq_left h.a.si1]
  · show (x.inn.take x.si).length ≤ y.so
    have := h.a.len; have := h.a.si1; omega
  · obtain ⟨a, b, ms, u⟩ := h.a.und q hq
    exact ⟨a, b, ms, u.eq, u.ga, u.gb, u.gm, u.gl⟩
  · show (x.out.take x.so).take k = x.out.take k
    rw [List.take_take, Nat.min_eq_left hk]
  · show (x.out.take x.so).length ≤ n
    have := h.na; have := h.a.so1; omega
/-- What a packet under way brings. -/
theorem Half.brings {x y : Sd} (h : Half x y) (hy : y.so ≤ y.out.length) {q : List UInt8 × Int} {a b : Nat} {ms : List (List UInt8)} (u : Under x y q a b ms) (most : Int) :
    (x.recv a b most ms).inn = y.out.take (x.recv a b most ms).inn.length ∧ (x.recv a b most ms).inn.length ≤ y.so := by
  show x.inn ++ rcvd x.inn.length b most ms = y.out.take (x.inn ++ rcvd x.inn.length b most ms).length ∧ (x.inn ++ rcvd x.inn.length b most ms).length ≤ y.so
  unfold rcvd frs
  split
  · next hc =>
    obtain ⟨h1, h2⟩ := hc
    obtain ⟨B, hB⟩ : ∃ B, B = b + ms.length := ⟨_, rfl⟩
    have gm := u.gm
    have gb := u.gb
    rw [← hB] at gm gb
    obtain ⟨n, hn⟩ : ∃ n, n = x.inn.length := ⟨_, rfl⟩
    have hnB : n < B := by omega
    have hin : x.inn = (y.out.take B).take n := by rw [List.take_take, Nat.min_eq_left (by omega), hn]; exact h.pre
    have hms : ms.drop (n - b) = (y.out.take B).drop n := by
      conv => lhs; rw [gm]
      rw [List.drop_drop, show b + (n - b) = n from by omega]
    rw [← hn, hms, hin, ← List.take_add, List.take_take]
    have hlen : (y.out.take (min (n + most.toNat) B)).length = min (n + most.toNat) B := List.length_take_of_le (by omega)
    rw [hlen]
    exact ⟨rfl, by omega⟩
  · simp only [List.take_nil, List.append_nil]
    exact ⟨h.pre, h.len⟩
theorem Inv.recv {W n : Nat} {x y : Sd} (h : Inv W n x y) {q : List UInt8 × Int} {a b : Nat} {ms : List (List UInt8)} (u : Under x y q a b ms) (most : Int) (l : List (List UInt8 × Int)) (hl : ∀ q ∈ l, q ∈ x.und) (hll : l.length ≤ n) :
    Inv W n (({ x with und := l } : Sd).recv a b most ms) y := by
  have hbr := h.a.brings h.b.so1 u most
  refine ⟨h.w1, h.w2, ⟨h.a.so1, ?_, ?_, hbr.1, hbr.2, ?_, h.a.short, fun q hq => ?_⟩, h.b.other (Nat.le_refl _) (Nat.le_refl _) (fun _ _ => rfl), h.na, h.nb, hll, h.ub⟩
  · show max x.tld a ≤ x.so
    have h1 := h.a.to1; have h2 := u.ga; have h3 := h.b.si1; have h4 := h.b.len
    omega
  · show x.si ≤ (x.inn ++ _).length
    have := h.a.si1; rw [List.length_append]; omega
  · show max x.tld a ≤ y.si
    have h1 := h.a.tsi; have h2 := u.ga
    omega
  · obtain ⟨a, b, ms, u⟩ := h.a.und q (hl q hq)
    exact ⟨a, b, ms, u.eq, u.ga, u.gb, u.gm, u.gl⟩
/-- A packet is sent. -/
theorem sent_under {W n : Nat} {x y : Sd} (h : Inv W n x y) : Under y x (pkt (enOf W x), (x.si : Int)) x.si x.tld (wl (enOf W x)) := by
  have h1 := h.a.so1
  have h2 := h.a.to1
  have hlen : (wl (enOf W x)).length = min x.so (x.tld + W) - x.tld := by
    show ((x.out.take (min x.so (x.tld + W))).drop x.tld).length = _
    rw [List.length_drop, List.length_take]; omega
  refine ⟨rfl, Nat.le_refl _, by omega, ?_, by have := h.w2; omega⟩
  rw [hlen, show x.tld + (min x.so (x.tld + W) - x.tld) = min x.so (x.tld + W) from by omega]
  rfl
theorem Inv.sends {W n : Nat} {x y : Sd} (h : Inv W n x y) : Inv W (n + 1) { x with rcv := false } { y with und := y.und ++ [(pkt (enOf W x), (x.si : Int))] } := by
  have ha : Half { x with rcv := false } y := h.a.under x.und false h.a.und
  have hb : Half { y with und := y.und ++ [(pkt (enOf W x), (x.si : Int))], rcv := y.rcv } x := h.b.under _ _ (fun q hq => by
    rcases List.mem_append.1 hq with hq | hq
    · exact h.b.und q hq
    · rw [List.mem_singleton.1 hq]; exact ⟨_, _, _, sent_under h⟩)
  refine ⟨h.w1, h.w2, ha.other (Nat.le_refl _) (Nat.le_refl _) (fun _ _ => rfl), hb.other (Nat.le_refl _) (Nat.le_refl _) (fun _ _ => rfl), Nat.le_succ_of_le h.na, Nat.le_succ_of_le h.nb, Nat.le_succ_of_le h.ua, ?_⟩
  show (y.und ++ [_]).length ≤ n + 1
  have := h.ub
  simp; exact this
theorem Inv.moves {W n : Nat} {x y : Sd} (h : Inv W n x y) (l : List (List UInt8 × Int)) (hl : ∀ q ∈ l, q ∈ x.und) (hll : l.length ≤ n + 1) : Inv W (n + 1) { x with und := l } y :=
  ⟨h.w1, h.w2, h.a.under l x.rcv (fun q hq => h.a.und q (hl q hq)), h.b.other (Nat.le_refl _) (Nat.le_refl _) (fun _ _ => rfl), Nat.le_succ_of_le h.na, Nat.le_succ_of_le h.nb, hll, Nat.le_succ_of_le h.ub⟩
def Sd.new : Sd := ⟨[], [], [], 0, 0, 0, false⟩
theorem Inv.new {W : Nat} (h1 : 1 ≤ W) (h2 : W ≤ 64) : Inv W 0 Sd.new Sd.new := by
  have h : Half Sd.new Sd.new := ⟨Nat.le_refl _, Nat.le_refl _, Nat.le_refl _, rfl, Nat.le_refl _, Nat.le_refl _, (fun m hm => by cases hm), (fun q hq => by cases hq)⟩
  exact ⟨h1, h2, h, h, Nat.le_refl _, Nat.le_refl _, Nat.le_refl _, Nat.le_refl _⟩
end Go.Proofs.Ytcdhjkkdenhmcaa
