/- errors.As at a bare kind: no; by a contract. -/
import Derived.Test.YtoncebfhkoabaaaDoorB3
namespace Go.Proofs.YtoncebfhkoabaaaDoor
open Go.RowKit Go.Extern.Stop Go.Stop Go.Extern

theorem Tryd.assignable44 (w : World) : (ReflectliteType.relation "AssignableTo" ReflectliteType.assignableTo #[.agg #[.pointer (some ⟨1, 55, none⟩)], .iface 127 (.agg #[.pointer (some ⟨1, 88, none⟩)])]).run Tryd.prog w = .ok (.bool false) w := by kernel_rfl
theorem Tryd.noAs44 (v : Value) (xT : TypeId) (w : World) : (Instr.typeAssert (.iface 55 v) xT 131 true).run Tryd.prog w = .ok (.tuple #[.nilIface, .bool false]) w := run_typeAssert_lacksB Tryd.underlying131 (by kernel_rfl) (by kernel_rfl) v xT w

set_option maxHeartbeats 4000000 in
theorem as_miss (k : Int) (t : Addr) (w : World) (hg : w.cell? ⟨0, 0, none⟩ = some (.iface 127 (.agg #[.pointer (some ⟨1, 37, none⟩)]))) :
    Calls Tryd.prog 39 #[.iface 55 (.int .i64 k), .iface 90 (.pointer (some t))] w fun ev w' => ev = .returned (.bool false) ∧ w' = (((w.alloc (.cells #[.pointer (some t)] 90)).alloc (.cells #[.pointer (some ⟨1, 90, none⟩), .pointer (some ⟨w.heap.size, 0, none⟩), .int .u64 150] 115)).alloc (.cells #[.pointer (some ⟨1, 90, none⟩), .pointer (some ⟨w.heap.size, 0, none⟩), .int .u64 150] 115)) := by
  have h37 := @run_callFunc_extern Tryd.prog 58 _ (fun args => ReflectliteValue.unpack (args.getD 0 (.tuple #[]))) Tryd.func58 (by kernel_rfl) (by kernel_rfl) (by kernel_rfl) (by kernel_rfl)
  have h38 := @run_callFunc_extern Tryd.prog 59 _ (ReflectliteValue.methodAny (ReflectliteValue.valueError "reflectlite.Value.Type" 0) (fun t _ _ _ => ReflectliteType.toType t)) Tryd.func59 (by kernel_rfl) (by kernel_rfl) (by kernel_rfl) (by kernel_rfl)
  have h39 := @run_callFunc_extern Tryd.prog 60 _ (ReflectliteValue.method (ReflectliteValue.valueError "reflectlite.Value.IsNil" 0) ReflectliteValue.isNil) Tryd.func60 (by kernel_rfl) (by kernel_rfl) (by kernel_rfl) (by kernel_rfl)
  have h63 := @run_callFunc_extern Tryd.prog 87 _ (ReflectliteType.abiMethod fun t => do pure (.int .u8 (← Rtype.kind t))) Tryd.func87 (by kernel_rfl) (by kernel_rfl) (by kernel_rfl) (by kernel_rfl)
  have h75 := @run_callFunc_extern Tryd.prog 103 _ (ReflectliteType.method ReflectliteType.elem) Tryd.func103 (by kernel_rfl) (by kernel_rfl) (by kernel_rfl) (by kernel_rfl)
  have h76 := @run_callFunc_extern Tryd.prog 104 _ (ReflectliteType.relation "Implements" ReflectliteType.implements_) Tryd.func104 (by kernel_rfl) (by kernel_rfl) (by kernel_rfl) (by kernel_rfl)
  have h45 := @run_callFunc_extern Tryd.prog 66 _ ReflectliteType.typeOf Tryd.func66 (by kernel_rfl) (by kernel_rfl) (by kernel_rfl) (by kernel_rfl)
  have h73 := @run_callFunc_extern Tryd.prog 101 _ (ReflectliteType.relation "AssignableTo" ReflectliteType.assignableTo) Tryd.func101 (by kernel_rfl) (by kernel_rfl) (by kernel_rfl) (by kernel_rfl)
  have tO := Tryd.errTypeOf
  have mA := Tryd.methodAssignableTo
  have a25 := Tryd.assignable44
  have nA := Tryd.noAs44
  have uE := Tryd.noUnwrapE
  have vE := Tryd.noUnwrapsE
  have f6 := Tryd.valueOf69
  have f7 := Tryd.type69
  have mK := Tryd.methodKind
  have mE := Tryd.methodElem
  have mI := Tryd.methodImplements
  have k27 := Tryd.kind69
  have k25 := Tryd.kind67
  have e27 := Tryd.elem69
  have i25 := Tryd.implements67
  have n8 := Tryd.isNil69 ⟨w.heap.size, 0, none⟩ t ((w.alloc (.cells #[.pointer (some t)] 90)).alloc (.cells #[.pointer (some ⟨1, 90, none⟩), .pointer (some ⟨w.heap.size, 0, none⟩), .int .u64 150] 115)) (by simp)
  have hlt : 0 < w.heap.size := by
    rcases Nat.eq_zero_or_pos w.heap.size with h0 | h
    · simp [World.cell?, h0] at hg
    · exact h
  have hg2 : ((w.alloc (.cells #[.pointer (some t)] 90)).alloc (.cells #[.pointer (some ⟨1, 90, none⟩), .pointer (some ⟨w.heap.size, 0, none⟩), .int .u64 150] 115)).cell? ⟨0, 0, none⟩ = some (.iface 127 (.agg #[.pointer (some ⟨1, 37, none⟩)])) := by
    rw [World.cell?_alloc_lt _ _ ⟨0, 0, none⟩ (by simp), World.cell?_alloc_lt _ _ ⟨0, 0, none⟩ hlt]; exact hg
  go_enter Tryd.func39, Tryd.ntmps39
  go_wp2
  refine wp_loop_rounds 1 ?_
  rw [rounds_succ]
  go_wp2
  go_ret
  exact ⟨rfl, rfl⟩
end Go.Proofs.YtoncebfhkoabaaaDoor
