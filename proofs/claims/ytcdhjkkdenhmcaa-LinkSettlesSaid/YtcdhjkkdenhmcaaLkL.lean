/- link: in the end everything has come (plain law). -/
import Derived.Test.YtcdhjkkdenhmcaaLkM
namespace Go.Proofs.Ytcdhjkkdenhmcaa
open Go.RowKit Go.Proofs.YtcdhjkkdenhmcaaW.PrintWords Go.Proofs.YtcdhjkkdenhmcaaW.PrintLast Go.Proofs.YtcdhjkkdenhmcaaW.PrintMore
set_option linter.unusedVariables false
set_option linter.unusedSimpArgs false
/-- x and y commit, and x's packet comes to y. -/
structure HalfOf (W n : Nat) (x y x' y' : Sd) : Prop where
  inv : Inv W n x' y'
  xo : x'.out = x.out
  yo : y'.out = y.out
  xi : x'.inn = x.inn
  xt : x'.tld = x.tld
  xs : x'.so = x.out.length
  ys : y'.so = y.out.length
  mono : y.inn.length ≤ y'.inn.length
  rcv : x.tld < x.out.length → y'.rcv = true
  prog : x.tld < x.out.length → y.inn.length = x.tld → y.inn.length + 1 ≤ y'.inn.length
  tell : (x.tld < x.out.length ∨ x.rcv = true) → y'.tld = max y.tld x.inn.length
  keep : y'.tld = y.tld ∨ y'.tld = max y.tld x.inn.length
theorem half_sent {W n : Nat} {x y : Sd} (h : Inv W n x y) (most : Int) (hm : 1 ≤ most) (hs : x.tld < x.out.length ∨ x.rcv = true) :
    HalfOf W n x y { x.commit with rcv := false } (y.commit.recv x.inn.length x.tld most (wl (enOf W x.commit))) := by
  have hc : Inv W n x.commit y.commit := h.commit.flip.commit.flip
  have u := sent_under hc
  have hi := hc.flip.recv u most y.und (fun q hq => hq) h.ub
  have hx : Half { x.commit with und := x.commit.und, rcv := false } (y.commit.recv x.inn.length x.tld most (wl (enOf W x.commit))) := hi.b.under _ false hi.b.und
  have hwl : (wl (enOf W x.commit)).length = min x.out.length (x.tld + W) - x.tld := by
    show ((x.out.take (min x.out.length (x.tld + W))).drop x.tld).length = _
    rw [List.length_drop, List.length_take]; omega
  refine ⟨⟨hi.w1, hi.w2, hx, hi.a.other (Nat.le_refl _) (Nat.le_refl _) (fun _ _ => rfl), hi.nb, hi.na, hi.ub, hi.ua⟩, rfl, rfl, rfl, rfl, rfl, rfl, ?_, fun ht => ?_, fun ht he => ?_, fun _ => rfl, .inr rfl⟩
  · show y.inn.length ≤ (y.inn ++ _).length
    rw [List.length_append]; omega
  · show (y.rcv || decide (0 < (wl (enOf W x.commit)).length)) = true
    have := h.w1
    rw [decide_eq_true (by omega : 0 < (wl (enOf W x.commit)).length), Bool.or_true]
  · show y.inn.length + 1 ≤ (y.inn ++ rcvd y.inn.length x.tld most (wl (enOf W x.commit))).length
    have hw := h.w1
    have hl : 0 < (wl (enOf W x.commit)).length := by omega
    have hf : frs y.inn.length x.tld (wl (enOf W x.commit)) = wl (enOf W x.commit) := by
      unfold frs
      rw [he, Nat.sub_self, if_pos ⟨Nat.le_refl _, hl⟩, List.drop_zero]
    rw [List.length_append]
    unfold rcvd
    rw [hf, List.length_take]
    omega
theorem half_none {W n : Nat} {x y : Sd} (h : Inv W n x y) (hs : ¬ (x.tld < x.out.length ∨ x.rcv = true)) : HalfOf W n x y x.commit y.commit :=
  ⟨h.commit.flip.commit.flip, rfl, rfl, rfl, rfl, rfl, rfl, Nat.le_refl _, fun ht => absurd (.inl ht) hs, fun ht => absurd (.inl ht) hs, fun ht => absurd ht hs, .inl rfl⟩
/-- How far it has come behind j exchanges. -/
structure Far (W n j : Nat) (a b : Sd) : Prop where
  inv : Inv W n a b
  sa : a.so = a.out.length
  sb : b.so = b.out.length
  t1 : a.tld = b.inn.length
  p1 : b.inn.length = a.out.length ∨ j ≤ b.inn.length + 1
  t2 : b.tld = a.inn.length ∨ a.rcv = true
  p2 : a.inn.length = b.out.length ∨ j ≤ a.inn.length + 1
  p3 : b.tld = b.out.length ∨ j ≤ b.out.length + 1
theorem far_step {W n : Nat} {a b a1 b1 a2 b2 : Sd} (h : Inv W n a b) (f : HalfOf W n a b a1 b1) (g : HalfOf W n b1 a1 b2 a2) :
    a2.out = a.out ∧ b2.out = b.out ∧ Far W n 1 a2 b2 ∧ ∀ j, 1 ≤ j → Far W n j a b → Far W n (j + 1) a2 b2 := by
  have i1 := f.inv
  have i2 := g.inv.flip
  have o1 : a2.out = a.out := g.yo.trans f.xo
  have o2 : b2.out = b.out := g.xo.trans f.yo
  have sa : a2.so = a2.out.length := by rw [g.ys, f.xo, o1]
  have sb : b2.so = b2.out.length := by rw [g.xs, f.yo, o2]
  have bi : b2.inn = b1.inn := g.xi
  have hb1 : b1.inn.length ≤ a.out.length := by have := i1.b.len; rw [f.xs] at this; exact this
  have ha1 : a.tld ≤ b1.inn.length := by have h1 := i1.a.tsi; have h2 := i1.b.si1; rw [f.xt] at h1; omega
  have hbo : b1.out.length = b.out.length := by rw [f.yo]
  have ha2i : a2.inn.length ≤ b.out.length := by have := i2.a.len; rw [sb, o2] at this; exact this
  have ha1i : a1.inn.length = a.inn.length := by rw [f.xi]
  have hgm := g.mono
  have hfm := f.mono
  have t1 : a2.tld = b2.inn.length := by
    rw [bi]
    have up : a2.tld ≤ b1.inn.length := by have h1 := i2.a.tsi; have h2 := i2.b.si1; rw [bi] at h2; omega
    rcases Nat.lt_or_ge a.tld a.out.length with hlt | hge
    · have := g.tell (.inr (f.rcv hlt))
      rw [this, f.xt]; omega
    · have : a.tld ≤ a2.tld := by rcases g.keep with e | e <;> rw [e, f.xt] <;> omega
      omega
  have t2 : b2.tld = a2.inn.length ∨ a2.rcv = true := by
    rcases Nat.lt_or_ge b1.tld b1.out.length with hlt | hge
    · exact .inr (g.rcv hlt)
    · left
      rw [g.xt]
      have h1 := i1.b.tsi; have h2 := i1.a.si1
      omega
  refine ⟨o1, o2, ⟨i2, sa, sb, t1, .inr (by omega), t2, .inr (by omega), .inr (by omega)⟩, fun j hj hF => ?_⟩
  have hbt : b1.tld = a.inn.length := by
    have hle : b.tld ≤ a.inn.length := by have h1 := h.b.tsi; have h2 := h.a.si1; omega
    rcases hF.t2 with e | e
    · rcases f.keep with k | k <;> rw [k] <;> omega
    · rw [f.tell (.inr e)]; omega
  have e1 := hF.t1
  refine ⟨i2, sa, sb, t1, ?_, t2, ?_, ?_⟩
  · rw [bi, o1]
    rcases hF.p1 with e | e
    · left; omega
    · rcases Nat.lt_or_ge a.tld a.out.length with hlt | hge
      · right
        have := f.prog hlt (by omega)
        omega
      · left; omega
  · rw [o2]
    rcases hF.p2 with e | e
    · left; omega
    · rcases Nat.lt_or_ge b1.tld b1.out.length with hlt | hge
      · right
        have := g.prog hlt (by omega)
        omega
      · left; omega
  · rw [o2, g.xt, hbt]
    rcases hF.p2 with e | e
    · left; exact e
    · rcases Nat.lt_or_ge a.inn.length b.out.length with hlt | hge
      · right; omega
      · left; omega
/-- Behind as many exchanges as there are messages, and three: everything has come, and is told. -/
theorem far_done {W n : Nat} {a b : Sd} (h : Far W n (a.out.length + b.out.length + 3) a b) : b.inn = a.out ∧ a.inn = b.out ∧ a.tld = a.so ∧ b.tld = b.so := by
  have h1 : b.inn.length = a.out.length := by
    rcases h.p1 with e | e
    · exact e
    · have := h.inv.b.len; have := h.sa; omega
  have h2 : a.inn.length = b.out.length := by
    rcases h.p2 with e | e
    · exact e
    · have := h.inv.a.len; have := h.sb; omega
  have h3 : b.tld = b.out.length := by
    rcases h.p3 with e | e
    · exact e
    · omega
  refine ⟨?_, ?_, by rw [h.t1, h1, h.sa], by rw [h3, h.sb]⟩
  · have := h.inv.b.pre
    rw [h1, List.take_length] at this
    exact this
  · have := h.inv.a.pre
    rw [h2, List.take_length] at this
    exact this
end Go.Proofs.Ytcdhjkkdenhmcaa
