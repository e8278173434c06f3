/- Walk of VmValues: true for any instruction and any registers. -/
import Derived.Test.YtbnpieehjabcmaaV23
import Derived.Deep.MidRow
import Derived.Deep.RegionHeld3
import Derived.Laws.StructEq
namespace Go.Proofs.Ytbnpieehjabcmaa
open Go.RowKit

set_option maxHeartbeats 4000000 in
set_option maxRecDepth 100000 in
theorem Try.eqRegs (r : List Int) (h : r.length = 32) (w : World) : (Op.equalIn 10000 32 (.agg (r.map (Value.int .u64)).toArray) (.agg (r.map (Value.int .u64)).toArray)).run Try.prog w = .ok true w := by
  match r, h with
  | [r0, r1, r2, r3, r4, r5, r6, r7, r8, r9, r10, r11, r12, r13, r14, r15, r16, r17, r18, r19, r20, r21, r22, r23, r24, r25, r26, r27, r28, r29, r30, r31], _ =>
    have u3 := Try.underlying22
    have a3 : ∀ w, (sizeOf 22).run Try.prog w = .ok 1 w := fun _ => by kernel_rfl
    have b3 : ∀ w, (isAgg 22).run Try.prog w = .ok false w := fun _ => by kernel_rfl
    rw [show (10000 : Nat) = 9999 + 1 from rfl, Op.equalIn]
    simp only [Sem.run_bind, run_underlying Try.underlying32, Result.andThen_ok]
    simp only [Std.Legacy.Range.forIn_eq_forIn_range', Std.Legacy.Range.size, Nat.sub_zero, Nat.add_sub_cancel, Nat.div_one, List.range'_succ, List.range'_zero, List.forIn_cons, List.forIn_nil]
    go_simp

theorem FrAt.range {w : World} {b : Nat} {pc : Int} {r : List Int} {A : Option Addr} {n cap : Nat} (h : FrAt w b 0 pc r A n cap) : w.rangeAt b 1 (r.map (Value.int .u64)) := by
  intro j v hj
  have hlt : j < 32 := by have := (List.getElem?_eq_some_iff.1 hj).1; simpa [h.len] using this
  have h1 := h.r j hlt
  rw [List.getElem?_map, List.getElem?_eq_getElem (by rw [h.len]; exact hlt)] at hj
  simp only [Option.map_some, Option.some.injEq] at hj
  rw [← hj]
  rw [List.getD_eq_getElem?_getD, List.getElem?_eq_getElem (by rw [h.len]; exact hlt), Option.getD_some] at h1
  simpa using h1
end Go.Proofs.Ytbnpieehjabcmaa
