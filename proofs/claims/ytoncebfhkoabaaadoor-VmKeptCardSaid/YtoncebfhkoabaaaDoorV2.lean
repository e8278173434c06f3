/- Walk of vm.may. -/
import Derived.Test.YtoncebfhkoabaaaDoorV1
import Derived.Test.YtoncebfhkoabaaaDoorK2
import Derived.Deep.DeepCutAuto
namespace Go.Proofs.YtoncebfhkoabaaaDoor
open Go.RowKit

def isJ (op : Int) : Bool := op == 12 || op == 13 || op == 14 || op == 15
def bare (x : InsD) : InsD := ⟨x.op, x.a, x.b, x.c, if isJ x.op then 0 else x.v, 0, 0⟩
def vmayF (x : InsD) (n : Int) : Bool := (!isJ x.op || decide (x.v < n)) && mayF (bare x) 1 (x.op != 22)

theorem ins_in (W : World) (x : InsD) : InsAt (W.alloc (.cells #[.int .i64 x.op, .int .i64 x.a, .int .i64 x.b, .int .i64 x.c, .int .u64 x.v, .int .i64 x.m, .int .i64 x.wh] 52)) W.heap.size 0 [x] := by
  refine insAt_one ?_ ?_ ?_ ?_ ?_ ?_ ?_ <;> simp

theorem ins_in2 (W : World) (O : Obj) (x : InsD) : InsAt ((W.alloc O).alloc (.cells #[.int .i64 x.op, .int .i64 x.a, .int .i64 x.b, .int .i64 x.c, .int .u64 x.v, .int .i64 x.m, .int .i64 x.wh] 52)) (W.heap.size + 1) 0 [x] := by
  have h := ins_in (W.alloc O) x
  simpa using h

set_option maxHeartbeats 2000000 in
theorem vmay_any (x : InsD) (n : Int) (h0 : 0 ≤ n) (h1 : n ≤ 1000000000000) (w : World) :
    Calls Tryd.prog 26 #[insV x, .int .i64 n] w fun e w' => e = .returned (.bool (vmayF x n)) ∧ Ext w w' := by
  by_cases hj : x.op = 12 ∨ x.op = 13 ∨ x.op = 14 ∨ x.op = 15
  · obtain ⟨op, a, b, c, v, m, wh⟩ := x
    have hj : op = 12 ∨ op = 13 ∨ op = 14 ∨ op = 15 := hj
    by_cases hv : v < n
    · have e : vmayF ⟨op, a, b, c, v, m, wh⟩ n = mayF ⟨op, a, b, c, 0, 0, 0⟩ 1 (op != 22) := by
        rcases hj with rfl | rfl | rfl | rfl <;> (unfold vmayF; simp [isJ, bare, hv])
      have C := fun W => check_one (w.heap.size + 1) 0 1 ⟨op, a, b, c, 0, 0, 0⟩ (op != 22) W
      rw [e]
      clear e
      have hnv : ¬ n ≤ v := by omega
      generalize hq : mayF ⟨op, a, b, c, 0, 0, 0⟩ 1 (op != 22) = q at C ⊢
      clear hq
      have C := Lib.hid C
      rcases hj with rfl | rfl | rfl | rfl
      all_goals
        go_enter Tryd.func26, Tryd.ntmps26
        go_wp2_with fail
        refine (C.out _ (ins_in2 w _ _)).mono ?_
        rintro e w1 ⟨u, rfl, hy, hn, hx⟩
        have X := Lib.hid (((ext1 w _).alloc (by simp) _).trans (hx.mono (by simp; omega)))
        clear hx
        cases q
        · obtain ⟨k, rfl⟩ := hn rfl
          clear hy hn
          go_wp2_with fail
          go_ret
          exact ⟨rfl, X.out⟩
        · obtain rfl := hy rfl
          clear hy hn
          go_wp2_with fail
          go_ret
          exact ⟨rfl, X.out⟩
    · have e : vmayF ⟨op, a, b, c, v, m, wh⟩ n = false := by
        rcases hj with rfl | rfl | rfl | rfl <;> (unfold vmayF; simp [isJ]; omega)
      rw [e]
      clear e
      have hnv : n ≤ v := by omega
      rcases hj with rfl | rfl | rfl | rfl
      all_goals
        go_enter Tryd.func26, Tryd.ntmps26
        go_wp2_with fail
        go_ret
        exact ⟨rfl, by first | exact ext1 _ _ | exact (((ext1 _ _).setCell (by simp) _).setCell (by simp) _)⟩
  · have hj2 : isJ x.op = false := by unfold isJ; simp; omega
    have e : bare x = ⟨x.op, x.a, x.b, x.c, x.v, 0, 0⟩ := by unfold bare; rw [if_neg (by simp [hj2])]
    have e2 : vmayF x n = mayF ⟨x.op, x.a, x.b, x.c, x.v, 0, 0⟩ 1 (x.op != 22) := by unfold vmayF; rw [e, hj2]; simp
    rw [e2]
    have k1 : (x.op == 12) = false := beq_eq_false_iff_ne.2 (by omega)
    have k2 : (x.op == 13) = false := beq_eq_false_iff_ne.2 (by omega)
    have k3 : (x.op == 14) = false := beq_eq_false_iff_ne.2 (by omega)
    have k4 : (x.op == 15) = false := beq_eq_false_iff_ne.2 (by omega)
    have C := fun W => check_one (w.heap.size + 1) 0 1 ⟨x.op, x.a, x.b, x.c, x.v, 0, 0⟩ (x.op != 22) W
    generalize hq : mayF ⟨x.op, x.a, x.b, x.c, x.v, 0, 0⟩ 1 (x.op != 22) = q at C ⊢
    clear hj hj2 e e2 hq
    have C := Lib.hid C
    go_enter Tryd.func26, Tryd.ntmps26
    go_wp2_with fail
    refine (C.out _ (ins_in2 w _ _)).mono ?_
    rintro e w1 ⟨u, rfl, hy, hn, hx⟩
    have X := Lib.hid (((ext1 w _).alloc (by simp) _).trans (hx.mono (by simp; omega)))
    clear hx
    cases q
    · obtain ⟨k, rfl⟩ := hn rfl
      clear hy hn
      go_wp2_with fail
      go_ret
      exact ⟨rfl, X.out⟩
    · obtain rfl := hy rfl
      clear hy hn
      go_wp2_with fail
      go_ret
      exact ⟨rfl, X.out⟩
end Go.Proofs.YtoncebfhkoabaaaDoor
