/- errors.As: it finds a fault's pointer, finds a number, finds no fault in a number. -/
import Derived.Test.YtcdhjkkdenhmcaaDoorAs
namespace Go.Proofs.YtcdhjkkdenhmcaaDoor
open Go.RowKit Go.Extern.Stop Go.Stop Go.Extern
open Go.Proofs.YtcdhjkkdenhmcaaDoorW.PrintWords Go.Proofs.YtcdhjkkdenhmcaaDoorW.PrintLast Go.Proofs.YtcdhjkkdenhmcaaDoorW.PrintMore
set_option linter.unusedVariables false
set_option linter.unusedSimpArgs false

/-- The laid variable errors.errorType. -/
def Laid (w : World) : Prop := w.cell? ⟨0, 0, none⟩ = some (.iface 87 (.agg #[.pointer (some ⟨1, 26, none⟩)]))
theorem Laid.lt {w : World} (h : Laid w) : 0 < w.heap.size := by
  rcases Nat.eq_zero_or_pos w.heap.size with h0 | h'
  · simp [Laid, World.cell?, h0] at h
  · exact h'
theorem Laid.below {w w1 : World} (h : Laid w) (hb : Below w.heap.size w w1) : Laid w1 := by
  have e := hb.block 0 h.lt
  unfold Laid at *
  simp only [World.cell?] at h ⊢
  rw [e]
  exact h
theorem Laid.set {w : World} (h : Laid w) {p : Addr} (hp : p.block ≠ 0) (u : Value) : Laid (w.setCell p u) := by
  unfold Laid at *
  have e := Below.heap_setCell w p u 0 (fun e => hp e.symm)
  simp only [World.cell?] at h ⊢
  rw [e]
  exact h

set_option maxHeartbeats 4000000 in
set_option maxRecDepth 100000 in
theorem as_hitP (e t : Addr) (old : Value) (w : World) (hg : Laid w) (ht0 : w.cell? t = some old) (hf0 : w.frozen? t = false) :
    Calls Tryd.prog 27 #[.iface 60 (.pointer (some e)), .iface 62 (.pointer (some t))] w fun ev w' => ev = .returned (.bool true) ∧ w' = ((((w.alloc (.cells #[.pointer (some t)] 62)).alloc (.cells #[.pointer (some ⟨1, 62, none⟩), .pointer (some ⟨w.heap.size, 0, none⟩), .int .u64 150] 75)).alloc (.cells #[.pointer (some ⟨1, 62, none⟩), .pointer (some ⟨w.heap.size, 0, none⟩), .int .u64 150] 75)).alloc (.cells #[.pointer (some e)] 60)).setCell t (.pointer (some e)) := by
  have h6 := @run_callFunc_extern Tryd.prog 32 _ (fun args => ReflectliteValue.unpack (args.getD 0 (.tuple #[]))) Tryd.func32 (by kernel_rfl) (by kernel_rfl) (by kernel_rfl) (by kernel_rfl)
  have h7 := @run_callFunc_extern Tryd.prog 33 _ (ReflectliteValue.methodAny (ReflectliteValue.valueError "reflectlite.Value.Type" 0) (fun t _ _ _ => ReflectliteType.toType t)) Tryd.func33 (by kernel_rfl) (by kernel_rfl) (by kernel_rfl) (by kernel_rfl)
  have h8 := @run_callFunc_extern Tryd.prog 34 _ (ReflectliteValue.method (ReflectliteValue.valueError "reflectlite.Value.IsNil" 0) ReflectliteValue.isNil) Tryd.func34 (by kernel_rfl) (by kernel_rfl) (by kernel_rfl) (by kernel_rfl)
  have h27 := @run_callFunc_extern Tryd.prog 55 _ (ReflectliteType.abiMethod fun t => do pure (.int .u8 (← Rtype.kind t))) Tryd.func55 (by kernel_rfl) (by kernel_rfl) (by kernel_rfl) (by kernel_rfl)
  have h37 := @run_callFunc_extern Tryd.prog 68 _ (ReflectliteType.method ReflectliteType.elem) Tryd.func68 (by kernel_rfl) (by kernel_rfl) (by kernel_rfl) (by kernel_rfl)
  have h38 := @run_callFunc_extern Tryd.prog 69 _ (ReflectliteType.relation "Implements" ReflectliteType.implements_) Tryd.func69 (by kernel_rfl) (by kernel_rfl) (by kernel_rfl) (by kernel_rfl)
  have h10 := @run_callFunc_extern Tryd.prog 37 _ ReflectliteType.typeOf Tryd.func37 (by kernel_rfl) (by kernel_rfl) (by kernel_rfl) (by kernel_rfl)
  have h35 := @run_callFunc_extern Tryd.prog 66 _ (ReflectliteType.relation "AssignableTo" ReflectliteType.assignableTo) Tryd.func66 (by kernel_rfl) (by kernel_rfl) (by kernel_rfl) (by kernel_rfl)
  have h11 := @run_callFunc_extern Tryd.prog 38 _ (ReflectliteValue.method (ReflectliteValue.valueError "reflectlite.Value.Elem" 0) ReflectliteValue.elem) Tryd.func38 (by kernel_rfl) (by kernel_rfl) (by kernel_rfl) (by kernel_rfl)
  have h12 := @run_callFunc_extern Tryd.prog 39 _ ReflectliteValue.set Tryd.func39 (by kernel_rfl) (by kernel_rfl) (by kernel_rfl) (by kernel_rfl)
  have tO := typeOfP
  have mA := methodAssignableTo
  have a25 := assignablePP
  have v25 := valueOfP
  have f6 := valueOfPP
  have f7 := typePP
  have mK := methodKind
  have mE := methodElem
  have mI := methodImplements
  have k27 := kindPP
  have k25 := kindP
  have e27 := elemPP
  have i25 := implementsP
  have n8 := isNilPP ⟨w.heap.size, 0, none⟩ t ((w.alloc (.cells #[.pointer (some t)] 62)).alloc (.cells #[.pointer (some ⟨1, 62, none⟩), .pointer (some ⟨w.heap.size, 0, none⟩), .int .u64 150] 75)) (by simp)
  have hlt := hg.lt
  have hg2 : ((w.alloc (.cells #[.pointer (some t)] 62)).alloc (.cells #[.pointer (some ⟨1, 62, none⟩), .pointer (some ⟨w.heap.size, 0, none⟩), .int .u64 150] 75)).cell? ⟨0, 0, none⟩ = some (.iface 87 (.agg #[.pointer (some ⟨1, 26, none⟩)])) := by
    rw [World.cell?_alloc_lt _ _ ⟨0, 0, none⟩ (by simp), World.cell?_alloc_lt _ _ ⟨0, 0, none⟩ hlt]; exact hg
  have htl : t.block < w.heap.size := World.block_lt_of_cell? w t ht0
  have el := elemVPP ⟨w.heap.size, 0, none⟩ t (((w.alloc (.cells #[.pointer (some t)] 62)).alloc (.cells #[.pointer (some ⟨1, 62, none⟩), .pointer (some ⟨w.heap.size, 0, none⟩), .int .u64 150] 75)).alloc (.cells #[.pointer (some ⟨1, 62, none⟩), .pointer (some ⟨w.heap.size, 0, none⟩), .int .u64 150] 75)) (by rw [World.cell?_alloc_lt _ _ ⟨w.heap.size, 0, none⟩ (by simp; omega)]; simp)
  have st := setP t ⟨w.heap.size + 1 + 1 + 1, 0, none⟩ e old ((((w.alloc (.cells #[.pointer (some t)] 62)).alloc (.cells #[.pointer (some ⟨1, 62, none⟩), .pointer (some ⟨w.heap.size, 0, none⟩), .int .u64 150] 75)).alloc (.cells #[.pointer (some ⟨1, 62, none⟩), .pointer (some ⟨w.heap.size, 0, none⟩), .int .u64 150] 75)).alloc (.cells #[.pointer (some e)] 60))
    (by rw [World.cell?_alloc_at _ _ _ _ (by simp)]; rfl)
    (by rw [World.cell?_alloc_lt _ _ t (by simp; omega), World.cell?_alloc_lt _ _ t (by simp; omega), World.cell?_alloc_lt _ _ t (by simp; omega), World.cell?_alloc_lt _ _ t htl]; exact ht0)
    (by rw [World.frozen?_alloc_old _ _ t (by simp; omega), World.frozen?_alloc_old _ _ t (by simp; omega), World.frozen?_alloc_old _ _ t (by simp; omega), World.frozen?_alloc_old _ _ t (Nat.ne_of_lt htl)]; exact hf0)
  go_enter Tryd.func27, Tryd.ntmps27
  go_wp2
  refine wp_loop_rounds 1 ?_
  rw [rounds_succ]
  go_wp2
  go_ret
  exact ⟨rfl, rfl⟩
set_option maxHeartbeats 4000000 in
set_option maxRecDepth 100000 in
theorem as_hitN (n : Int) (t : Addr) (old : Value) (w : World) (hg : Laid w) (ht0 : w.cell? t = some old) (hf0 : w.frozen? t = false) :
    Calls Tryd.prog 27 #[.iface 32 (.int .i64 n), .iface 65 (.pointer (some t))] w fun ev w' => ev = .returned (.bool true) ∧ w' = ((((w.alloc (.cells #[.pointer (some t)] 65)).alloc (.cells #[.pointer (some ⟨1, 65, none⟩), .pointer (some ⟨w.heap.size, 0, none⟩), .int .u64 150] 75)).alloc (.cells #[.pointer (some ⟨1, 65, none⟩), .pointer (some ⟨w.heap.size, 0, none⟩), .int .u64 150] 75)).alloc (.cells #[.int .i64 n] 32)).setCell t (.int .i64 n) := by
  have h6 := @run_callFunc_extern Tryd.prog 32 _ (fun args => ReflectliteValue.unpack (args.getD 0 (.tuple #[]))) Tryd.func32 (by kernel_rfl) (by kernel_rfl) (by kernel_rfl) (by kernel_rfl)
  have h7 := @run_callFunc_extern Tryd.prog 33 _ (ReflectliteValue.methodAny (ReflectliteValue.valueError "reflectlite.Value.Type" 0) (fun t _ _ _ => ReflectliteType.toType t)) Tryd.func33 (by kernel_rfl) (by kernel_rfl) (by kernel_rfl) (by kernel_rfl)
  have h8 := @run_callFunc_extern Tryd.prog 34 _ (ReflectliteValue.method (ReflectliteValue.valueError "reflectlite.Value.IsNil" 0) ReflectliteValue.isNil) Tryd.func34 (by kernel_rfl) (by kernel_rfl) (by kernel_rfl) (by kernel_rfl)
  have h27 := @run_callFunc_extern Tryd.prog 55 _ (ReflectliteType.abiMethod fun t => do pure (.int .u8 (← Rtype.kind t))) Tryd.func55 (by kernel_rfl) (by kernel_rfl) (by kernel_rfl) (by kernel_rfl)
  have h37 := @run_callFunc_extern Tryd.prog 68 _ (ReflectliteType.method ReflectliteType.elem) Tryd.func68 (by kernel_rfl) (by kernel_rfl) (by kernel_rfl) (by kernel_rfl)
  have h38 := @run_callFunc_extern Tryd.prog 69 _ (ReflectliteType.relation "Implements" ReflectliteType.implements_) Tryd.func69 (by kernel_rfl) (by kernel_rfl) (by kernel_rfl) (by kernel_rfl)
  have h10 := @run_callFunc_extern Tryd.prog 37 _ ReflectliteType.typeOf Tryd.func37 (by kernel_rfl) (by kernel_rfl) (by kernel_rfl) (by kernel_rfl)
  have h35 := @run_callFunc_extern Tryd.prog 66 _ (ReflectliteType.relation "AssignableTo" ReflectliteType.assignableTo) Tryd.func66 (by kernel_rfl) (by kernel_rfl) (by kernel_rfl) (by kernel_rfl)
  have h11 := @run_callFunc_extern Tryd.prog 38 _ (ReflectliteValue.method (ReflectliteValue.valueError "reflectlite.Value.Elem" 0) ReflectliteValue.elem) Tryd.func38 (by kernel_rfl) (by kernel_rfl) (by kernel_rfl) (by kernel_rfl)
  have h12 := @run_callFunc_extern Tryd.prog 39 _ ReflectliteValue.set Tryd.func39 (by kernel_rfl) (by kernel_rfl) (by kernel_rfl) (by kernel_rfl)
  have tO := typeOfN
  have mA := methodAssignableTo
  have a25 := assignableNN
  have v25 := valueOfN
  have f6 := valueOfPN
  have f7 := typePN
  have mK := methodKind
  have mE := methodElem
  have mI := methodImplements
  have k27 := kindPN
  have k25 := kindN
  have e27 := elemPN
  have i25 := implementsN
  have n8 := isNilPN ⟨w.heap.size, 0, none⟩ t ((w.alloc (.cells #[.pointer (some t)] 65)).alloc (.cells #[.pointer (some ⟨1, 65, none⟩), .pointer (some ⟨w.heap.size, 0, none⟩), .int .u64 150] 75)) (by simp)
  have hlt := hg.lt
  have hg2 : ((w.alloc (.cells #[.pointer (some t)] 65)).alloc (.cells #[.pointer (some ⟨1, 65, none⟩), .pointer (some ⟨w.heap.size, 0, none⟩), .int .u64 150] 75)).cell? ⟨0, 0, none⟩ = some (.iface 87 (.agg #[.pointer (some ⟨1, 26, none⟩)])) := by
    rw [World.cell?_alloc_lt _ _ ⟨0, 0, none⟩ (by simp), World.cell?_alloc_lt _ _ ⟨0, 0, none⟩ hlt]; exact hg
  have htl : t.block < w.heap.size := World.block_lt_of_cell? w t ht0
  have el := elemVPN ⟨w.heap.size, 0, none⟩ t (((w.alloc (.cells #[.pointer (some t)] 65)).alloc (.cells #[.pointer (some ⟨1, 65, none⟩), .pointer (some ⟨w.heap.size, 0, none⟩), .int .u64 150] 75)).alloc (.cells #[.pointer (some ⟨1, 65, none⟩), .pointer (some ⟨w.heap.size, 0, none⟩), .int .u64 150] 75)) (by rw [World.cell?_alloc_lt _ _ ⟨w.heap.size, 0, none⟩ (by simp; omega)]; simp)
  have st := setN t ⟨w.heap.size + 1 + 1 + 1, 0, none⟩ n old ((((w.alloc (.cells #[.pointer (some t)] 65)).alloc (.cells #[.pointer (some ⟨1, 65, none⟩), .pointer (some ⟨w.heap.size, 0, none⟩), .int .u64 150] 75)).alloc (.cells #[.pointer (some ⟨1, 65, none⟩), .pointer (some ⟨w.heap.size, 0, none⟩), .int .u64 150] 75)).alloc (.cells #[.int .i64 n] 32))
    (by rw [World.cell?_alloc_at _ _ _ _ (by simp)]; rfl)
    (by rw [World.cell?_alloc_lt _ _ t (by simp; omega), World.cell?_alloc_lt _ _ t (by simp; omega), World.cell?_alloc_lt _ _ t (by simp; omega), World.cell?_alloc_lt _ _ t htl]; exact ht0)
    (by rw [World.frozen?_alloc_old _ _ t (by simp; omega), World.frozen?_alloc_old _ _ t (by simp; omega), World.frozen?_alloc_old _ _ t (by simp; omega), World.frozen?_alloc_old _ _ t (Nat.ne_of_lt htl)]; exact hf0)
  go_enter Tryd.func27, Tryd.ntmps27
  go_wp2
  refine wp_loop_rounds 1 ?_
  rw [rounds_succ]
  go_wp2
  go_ret
  exact ⟨rfl, rfl⟩
theorem noAsN (v : Value) (xT : TypeId) (w : World) : (Instr.typeAssert (.iface 32 v) xT 92 true).run Tryd.prog w = .ok (.tuple #[.nilIface, .bool false]) w := run_typeAssert_lacksB Tryd.underlying92 (by kernel_rfl) (by kernel_rfl) v xT w
theorem noUnwrapN (v : Value) (xT : TypeId) (w : World) : (Instr.typeAssert (.iface 32 v) xT 95 true).run Tryd.prog w = .ok (.tuple #[.nilIface, .bool false]) w := run_typeAssert_lacksB Tryd.underlying95 (by kernel_rfl) (by kernel_rfl) v xT w
theorem noUnwrapsN (v : Value) (xT : TypeId) (w : World) : (Instr.typeAssert (.iface 32 v) xT 96 true).run Tryd.prog w = .ok (.tuple #[.nilIface, .bool false]) w := run_typeAssert_lacksB Tryd.underlying96 (by kernel_rfl) (by kernel_rfl) v xT w
set_option maxHeartbeats 4000000 in
set_option maxRecDepth 100000 in
theorem as_missN (n : Int) (t : Addr) (w : World) (hg : Laid w) :
    Calls Tryd.prog 27 #[.iface 32 (.int .i64 n), .iface 62 (.pointer (some t))] w fun ev w' => ev = .returned (.bool false) ∧ w' = ((w.alloc (.cells #[.pointer (some t)] 62)).alloc (.cells #[.pointer (some ⟨1, 62, none⟩), .pointer (some ⟨w.heap.size, 0, none⟩), .int .u64 150] 75)).alloc (.cells #[.pointer (some ⟨1, 62, none⟩), .pointer (some ⟨w.heap.size, 0, none⟩), .int .u64 150] 75) := by
  have h6 := @run_callFunc_extern Tryd.prog 32 _ (fun args => ReflectliteValue.unpack (args.getD 0 (.tuple #[]))) Tryd.func32 (by kernel_rfl) (by kernel_rfl) (by kernel_rfl) (by kernel_rfl)
  have h7 := @run_callFunc_extern Tryd.prog 33 _ (ReflectliteValue.methodAny (ReflectliteValue.valueError "reflectlite.Value.Type" 0) (fun t _ _ _ => ReflectliteType.toType t)) Tryd.func33 (by kernel_rfl) (by kernel_rfl) (by kernel_rfl) (by kernel_rfl)
  have h8 := @run_callFunc_extern Tryd.prog 34 _ (ReflectliteValue.method (ReflectliteValue.valueError "reflectlite.Value.IsNil" 0) ReflectliteValue.isNil) Tryd.func34 (by kernel_rfl) (by kernel_rfl) (by kernel_rfl) (by kernel_rfl)
  have h27 := @run_callFunc_extern Tryd.prog 55 _ (ReflectliteType.abiMethod fun t => do pure (.int .u8 (← Rtype.kind t))) Tryd.func55 (by kernel_rfl) (by kernel_rfl) (by kernel_rfl) (by kernel_rfl)
  have h37 := @run_callFunc_extern Tryd.prog 68 _ (ReflectliteType.method ReflectliteType.elem) Tryd.func68 (by kernel_rfl) (by kernel_rfl) (by kernel_rfl) (by kernel_rfl)
  have h38 := @run_callFunc_extern Tryd.prog 69 _ (ReflectliteType.relation "Implements" ReflectliteType.implements_) Tryd.func69 (by kernel_rfl) (by kernel_rfl) (by kernel_rfl) (by kernel_rfl)
  have h10 := @run_callFunc_extern Tryd.prog 37 _ ReflectliteType.typeOf Tryd.func37 (by kernel_rfl) (by kernel_rfl) (by kernel_rfl) (by kernel_rfl)
  have h35 := @run_callFunc_extern Tryd.prog 66 _ (ReflectliteType.relation "AssignableTo" ReflectliteType.assignableTo) Tryd.func66 (by kernel_rfl) (by kernel_rfl) (by kernel_rfl) (by kernel_rfl)
  have h11 := @run_callFunc_extern Tryd.prog 38 _ (ReflectliteValue.method (ReflectliteValue.valueError "reflectlite.Value.Elem" 0) ReflectliteValue.elem) Tryd.func38 (by kernel_rfl) (by kernel_rfl) (by kernel_rfl) (by kernel_rfl)
  have h12 := @run_callFunc_extern Tryd.prog 39 _ ReflectliteValue.set Tryd.func39 (by kernel_rfl) (by kernel_rfl) (by kernel_rfl) (by kernel_rfl)
  have tO := typeOfN
  have xa := noAsN
  have xu := noUnwrapN
  have xs := noUnwrapsN
  have mA := methodAssignableTo
  have a25 := assignableNP
  have v25 := valueOfP
  have f6 := valueOfPP
  have f7 := typePP
  have mK := methodKind
  have mE := methodElem
  have mI := methodImplements
  have k27 := kindPP
  have k25 := kindP
  have e27 := elemPP
  have i25 := implementsP
  have n8 := isNilPP ⟨w.heap.size, 0, none⟩ t ((w.alloc (.cells #[.pointer (some t)] 62)).alloc (.cells #[.pointer (some ⟨1, 62, none⟩), .pointer (some ⟨w.heap.size, 0, none⟩), .int .u64 150] 75)) (by simp)
  have hlt := hg.lt
  have hg2 : ((w.alloc (.cells #[.pointer (some t)] 62)).alloc (.cells #[.pointer (some ⟨1, 62, none⟩), .pointer (some ⟨w.heap.size, 0, none⟩), .int .u64 150] 75)).cell? ⟨0, 0, none⟩ = some (.iface 87 (.agg #[.pointer (some ⟨1, 26, none⟩)])) := by
    rw [World.cell?_alloc_lt _ _ ⟨0, 0, none⟩ (by simp), World.cell?_alloc_lt _ _ ⟨0, 0, none⟩ hlt]; exact hg
  go_enter Tryd.func27, Tryd.ntmps27
  go_wp2
  refine wp_loop_rounds 1 ?_
  rw [rounds_succ]
  go_wp2
  go_ret
  exact ⟨rfl, rfl⟩
end Go.Proofs.YtcdhjkkdenhmcaaDoor
