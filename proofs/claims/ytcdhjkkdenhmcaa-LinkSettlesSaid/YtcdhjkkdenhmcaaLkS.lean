/- link: a side of the law (an end, what is under way to it, what it pushed and got) in memory. -/
import Derived.Test.YtcdhjkkdenhmcaaLkW
namespace Go.Proofs.Ytcdhjkkdenhmcaa
open Go.RowKit Go.Proofs.YtcdhjkkdenhmcaaW.PrintWords Go.Proofs.YtcdhjkkdenhmcaaW.PrintLast Go.Proofs.YtcdhjkkdenhmcaaW.PrintMore
set_option linter.unusedVariables false
set_option linter.unusedSimpArgs false
structure Sd where
  und : List (List UInt8 × Int)
  out : List (List UInt8)
  inn : List (List UInt8)
  so : Nat
  si : Nat
  tld : Nat
  rcv : Bool
def enOf (W : Nat) (x : Sd) : En := ⟨W, x.out, x.so, x.tld, x.inn.length, x.si, x.rcv⟩
/-- The cells of a side. -/
abbrev sdC (x : Sd) (p : Nat) (Au : Option Addr) (cu : Nat) (Ao : Option Addr) (co : Nat) (Ai : Option Addr) (ci : Nat) : Array Value :=
  #[.pointer (some ⟨p, 0, none⟩), .slice Au x.und.length cu, .slice Ao x.out.length co, .slice Ai x.inn.length ci, .int .i64 x.so, .int .i64 x.si, .int .i64 x.tld]
structure SideAt (w : World) (F : Nat → Prop) (x : Sd) (Au : Option Addr) (cu : Nat) (Ao : Option Addr) (co : Nat) (Ai : Option Addr) (ci : Nat) : Prop where
  cu : x.und.length ≤ cu
  fu : Kd.F kPk w F Au x.und.length x.und
  co : x.out.length ≤ co
  fo : Kd.F kBs w F Ao x.out.length x.out
  ci : x.inn.length ≤ ci
  fi : Kd.F kBs w F Ai x.inn.length x.inn
section
variable {w w1 : World} {F F' : Nat → Prop} {x : Sd} {Au Ao Ai : Option Addr} {cu co ci : Nat}
theorem SideAt.step (h : SideAt w F x Au cu Ao co Ai ci) (hm : ∀ k, F k → k < w.heap.size → w1.heap[k]? = w.heap[k]?) : SideAt w1 F x Au cu Ao co Ai ci :=
  ⟨h.cu, Kd.F_step h.fu hm, h.co, Kd.F_step h.fo hm, h.ci, Kd.F_step h.fi hm⟩
theorem SideAt.mono (h : SideAt w F x Au cu Ao co Ai ci) (hm : ∀ k, F k → k < w.heap.size → F' k) : SideAt w F' x Au cu Ao co Ai ci :=
  ⟨h.cu, Kd.F_mono (Kd.F_bound h.fu) (fun k hk => hm k hk.1 hk.2), h.co, Kd.F_mono (Kd.F_bound h.fo) (fun k hk => hm k hk.1 hk.2), h.ci, Kd.F_mono (Kd.F_bound h.fi) (fun k hk => hm k hk.1 hk.2)⟩
theorem SideAt.bound (h : SideAt w F x Au cu Ao co Ai ci) : SideAt w (fun k => F k ∧ k < w.heap.size) x Au cu Ao co Ai ci := h.mono (fun k h1 h2 => ⟨h1, h2⟩)
end
def put7 (W : World) (g : Nat) (a0 a1 a2 a3 a4 a5 a6 : Value) : World := ((((((W.setCell ⟨g, 0, none⟩ a0).setCell ⟨g, 1, none⟩ a1).setCell ⟨g, 2, none⟩ a2).setCell ⟨g, 3, none⟩ a3).setCell ⟨g, 4, none⟩ a4).setCell ⟨g, 5, none⟩ a5).setCell ⟨g, 6, none⟩ a6
theorem put7_fold (W : World) (g : Nat) (a0 a1 a2 a3 a4 a5 a6 : Value) : ((((((W.setCell ⟨g, 0, none⟩ a0).setCell ⟨g, 1, none⟩ a1).setCell ⟨g, 2, none⟩ a2).setCell ⟨g, 3, none⟩ a3).setCell ⟨g, 4, none⟩ a4).setCell ⟨g, 5, none⟩ a5).setCell ⟨g, 6, none⟩ a6 = put7 W g a0 a1 a2 a3 a4 a5 a6 := rfl
theorem put7_at {W : World} {g t : Nat} {b0 b1 b2 b3 b4 b5 b6 : Value} (h : W.heap[g]? = some (.cells #[b0, b1, b2, b3, b4, b5, b6] t (0, 0))) (a0 a1 a2 a3 a4 a5 a6 : Value) : (put7 W g a0 a1 a2 a3 a4 a5 a6).heap[g]? = some (.cells #[a0, a1, a2, a3, a4, a5, a6] t (0, 0)) := by
  unfold put7
  have h0 : (W.setCell ⟨g, 0, none⟩ a0).heap[g]? = some (.cells #[a0, b1, b2, b3, b4, b5, b6] t (0, 0)) := blk_set h 0 a0
  have h1 : ((W.setCell ⟨g, 0, none⟩ a0).setCell ⟨g, 1, none⟩ a1).heap[g]? = some (.cells #[a0, a1, b2, b3, b4, b5, b6] t (0, 0)) := blk_set h0 1 a1
  have h2 : (((W.setCell ⟨g, 0, none⟩ a0).setCell ⟨g, 1, none⟩ a1).setCell ⟨g, 2, none⟩ a2).heap[g]? = some (.cells #[a0, a1, a2, b3, b4, b5, b6] t (0, 0)) := blk_set h1 2 a2
  have h3 : ((((W.setCell ⟨g, 0, none⟩ a0).setCell ⟨g, 1, none⟩ a1).setCell ⟨g, 2, none⟩ a2).setCell ⟨g, 3, none⟩ a3).heap[g]? = some (.cells #[a0, a1, a2, a3, b4, b5, b6] t (0, 0)) := blk_set h2 3 a3
  have h4 : (((((W.setCell ⟨g, 0, none⟩ a0).setCell ⟨g, 1, none⟩ a1).setCell ⟨g, 2, none⟩ a2).setCell ⟨g, 3, none⟩ a3).setCell ⟨g, 4, none⟩ a4).heap[g]? = some (.cells #[a0, a1, a2, a3, a4, b5, b6] t (0, 0)) := blk_set h3 4 a4
  have h5 : ((((((W.setCell ⟨g, 0, none⟩ a0).setCell ⟨g, 1, none⟩ a1).setCell ⟨g, 2, none⟩ a2).setCell ⟨g, 3, none⟩ a3).setCell ⟨g, 4, none⟩ a4).setCell ⟨g, 5, none⟩ a5).heap[g]? = some (.cells #[a0, a1, a2, a3, a4, a5, b6] t (0, 0)) := blk_set h4 5 a5
  have h6 : (((((((W.setCell ⟨g, 0, none⟩ a0).setCell ⟨g, 1, none⟩ a1).setCell ⟨g, 2, none⟩ a2).setCell ⟨g, 3, none⟩ a3).setCell ⟨g, 4, none⟩ a4).setCell ⟨g, 5, none⟩ a5).setCell ⟨g, 6, none⟩ a6).heap[g]? = some (.cells #[a0, a1, a2, a3, a4, a5, a6] t (0, 0)) := blk_set h5 6 a6
  exact h6
theorem put7_ne (W : World) {g k : Nat} (h : k ≠ g) (a0 a1 a2 a3 a4 a5 a6 : Value) : (put7 W g a0 a1 a2 a3 a4 a5 a6).heap[k]? = W.heap[k]? := by
  unfold put7
  repeat rw [Below.heap_setCell _ _ _ _ (by exact h)]
theorem put7_size (W : World) (g : Nat) (a0 a1 a2 a3 a4 a5 a6 : Value) : (put7 W g a0 a1 a2 a3 a4 a5 a6).heap.size = W.heap.size := by
  unfold put7
  simp only [set_size]
theorem put7_below {W w : World} {g B : Nat} (h : Below B w W) (hg : B ≤ g) (a0 a1 a2 a3 a4 a5 a6 : Value) : Below B w (put7 W g a0 a1 a2 a3 a4 a5 a6) :=
  ((((((h.setCell hg a0).setCell hg a1).setCell hg a2).setCell hg a3).setCell hg a4).setCell hg a5).setCell hg a6
/-- Seven cells that are read and written. -/
theorem cells7 {W : World} {g t : Nat} {b0 b1 b2 b3 b4 b5 b6 : Value} (h : W.heap[g]? = some (.cells #[b0, b1, b2, b3, b4, b5, b6] t (0, 0))) :
    (W.cell? ⟨g, 0, none⟩ = some b0 ∧ W.cell? ⟨g, 1, none⟩ = some b1 ∧ W.cell? ⟨g, 2, none⟩ = some b2 ∧ W.cell? ⟨g, 3, none⟩ = some b3 ∧ W.cell? ⟨g, 4, none⟩ = some b4 ∧ W.cell? ⟨g, 5, none⟩ = some b5 ∧ W.cell? ⟨g, 6, none⟩ = some b6) ∧
    W.frozen? ⟨g, 0, none⟩ = false ∧ W.frozen? ⟨g, 1, none⟩ = false ∧ W.frozen? ⟨g, 2, none⟩ = false ∧ W.frozen? ⟨g, 3, none⟩ = false ∧ W.frozen? ⟨g, 4, none⟩ = false ∧ W.frozen? ⟨g, 5, none⟩ = false ∧ W.frozen? ⟨g, 6, none⟩ = false :=
  ⟨⟨blk_cell h 0, blk_cell h 1, blk_cell h 2, blk_cell h 3, blk_cell h 4, blk_cell h 5, blk_cell h 6⟩, blk_frozen h 0, blk_frozen h 1, blk_frozen h 2, blk_frozen h 3, blk_frozen h 4, blk_frozen h 5, blk_frozen h 6⟩
theorem alloc_at (w : World) (o : Obj) {n : Nat} (h : w.heap.size = n) : (w.alloc o).heap[n]? = some o := by subst h; exact heap_alloc_new w o
theorem alloc_le (w : World) (o : Obj) {k : Nat} {v : Option Obj} (h : w.heap[k]? = v) (hk : k < w.heap.size) : (w.alloc o).heap[k]? = v := (heap_alloc_old w o hk).trans h
theorem alloc_sz (w : World) (o : Obj) {n : Nat} (h : w.heap.size = n) : (w.alloc o).heap.size = n + 1 := by subst h; exact Array.size_push _
/-- Four blocks that were made now. -/
theorem four (w : World) (o1 o2 o3 o4 : Obj) : ((((w.alloc o1).alloc o2).alloc o3).alloc o4).heap.size = w.heap.size + 1 + 1 + 1 + 1 ∧ ((((w.alloc o1).alloc o2).alloc o3).alloc o4).heap[w.heap.size]? = some o1 ∧ ((((w.alloc o1).alloc o2).alloc o3).alloc o4).heap[w.heap.size + 1]? = some o2 ∧
    ((((w.alloc o1).alloc o2).alloc o3).alloc o4).heap[w.heap.size + 1 + 1]? = some o3 ∧ ((((w.alloc o1).alloc o2).alloc o3).alloc o4).heap[w.heap.size + 1 + 1 + 1]? = some o4 := by
  have s1 := alloc_sz w o1 rfl
  have s2 := alloc_sz _ o2 s1
  have s3 := alloc_sz _ o3 s2
  exact ⟨alloc_sz _ o4 s3, alloc_le _ _ (alloc_le _ _ (alloc_le _ _ (alloc_at w o1 rfl) (by omega)) (by omega)) (by omega), alloc_le _ _ (alloc_le _ _ (alloc_at _ o2 s1) (by omega)) (by omega), alloc_le _ _ (alloc_at _ o3 s2) (by omega), alloc_at _ o4 s3⟩
/-- Five blocks that were made now. -/
theorem five (w : World) (o1 o2 o3 o4 o5 : Obj) : (((((w.alloc o1).alloc o2).alloc o3).alloc o4).alloc o5).heap.size = w.heap.size + 1 + 1 + 1 + 1 + 1 ∧ (((((w.alloc o1).alloc o2).alloc o3).alloc o4).alloc o5).heap[w.heap.size]? = some o1 ∧ (((((w.alloc o1).alloc o2).alloc o3).alloc o4).alloc o5).heap[w.heap.size + 1]? = some o2 ∧
    (((((w.alloc o1).alloc o2).alloc o3).alloc o4).alloc o5).heap[w.heap.size + 1 + 1]? = some o3 ∧ (((((w.alloc o1).alloc o2).alloc o3).alloc o4).alloc o5).heap[w.heap.size + 1 + 1 + 1]? = some o4 ∧ (((((w.alloc o1).alloc o2).alloc o3).alloc o4).alloc o5).heap[w.heap.size + 1 + 1 + 1 + 1]? = some o5 := by
  obtain ⟨h0, h1, h2, h3, h4⟩ := four w o1 o2 o3 o4
  exact ⟨alloc_sz _ o5 h0, alloc_le _ _ h1 (by omega), alloc_le _ _ h2 (by omega), alloc_le _ _ h3 (by omega), alloc_le _ _ h4 (by omega), alloc_at _ o5 h0⟩
/-- A list of lists that is read: an element. -/
theorem LF_cell {w : World} {ok : Nat → Prop} {A : Option Addr} {l : List (List UInt8)} (h : Kd.F kBs w ok A l.length l) {k : Nat} (hk : k < l.length) :
    ∃ ad A0 c0, A = some ad ∧ w.cell? (ad.add k) = some (.slice A0 (gl l k).length c0) ∧ (gl l k).length ≤ c0 ∧ Kd.F kB w ok A0 (gl l k).length (gl l k) := by
  obtain ⟨ad, c, e, _, hK, hc, _⟩ := Kd.F_get h ([] : List UInt8) (k : Int) (by omega) (by omega)
  obtain ⟨A0, c0, rfl, l0, g0⟩ := Kd.FK_slice_open hK
  refine ⟨ad, A0, c0, e, ?_, l0, g0⟩
  have hq := hc 0 _ rfl
  have e1 : kBs.sz = 1 := rfl
  rw [e1, Nat.mul_one, Nat.add_zero, Int.toNat_natCast] at hq
  exact hq
/-- A side's cells with another list of what it got, and told. -/
abbrev bxC (x : Sd) (p : Nat) (Au : Option Addr) (cu : Nat) (Ao : Option Addr) (co : Nat) (Ai : Option Addr) (n ci t : Nat) : Array Value :=
  #[.pointer (some ⟨p, 0, none⟩), .slice Au x.und.length cu, .slice Ao x.out.length co, .slice Ai n ci, .int .i64 x.so, .int .i64 x.si, .int .i64 t]
def zeroC : Array Value := #[.pointer none, .slice none 0 0, .slice none 0 0, .slice none 0 0, .int .i64 0, .int .i64 0, .int .i64 0]
def Sd.recv (x : Sd) (a b : Nat) (most : Int) (ms : List (List UInt8)) : Sd := { x with inn := x.inn ++ rcvd x.inn.length b most ms, tld := max x.tld a, rcv := x.rcv || decide (0 < ms.length) }
theorem enOf_recv (W : Nat) (x : Sd) (a b : Nat) (most : Int) (ms : List (List UInt8)) : enOf W (x.recv a b most ms) = (enOf W x).recv a b most ms := by
  simp only [enOf, Sd.recv, En.recv, List.length_append]
end Go.Proofs.Ytcdhjkkdenhmcaa
