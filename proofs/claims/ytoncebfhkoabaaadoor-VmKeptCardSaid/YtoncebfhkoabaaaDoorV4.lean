/- Walk of vm.reckon. -/
import Derived.Test.YtoncebfhkoabaaaDoorV1
import Derived.Laws.Shifts
namespace Go.Proofs.YtoncebfhkoabaaaDoor
open Go.RowKit

def shiftBy (c : Int) : Int := bits BinOp.and IntKind.u64 c 63
theorem shiftBy_nonneg (c : Int) : 0 ≤ bits BinOp.and IntKind.u64 c 63 := wrap_u64_nonneg _
def reckonF (op v b c : Int) : Int :=
  if op = 1 then v
  else if op = 3 then IntKind.u64.wrap (b + c)
  else if op = 4 then IntKind.u64.wrap (b - c)
  else if op = 5 then bits BinOp.and IntKind.u64 b c
  else if op = 6 then bits BinOp.or IntKind.u64 b c
  else if op = 7 then bits BinOp.xor IntKind.u64 b c
  else if op = 8 then IntKind.u64.wrap (b * 2 ^ min (shiftBy c).toNat 64)
  else if op = 9 then b / 2 ^ min (shiftBy c).toNat 64
  else if op = 10 then flagF (b == c)
  else if op = 11 then flagF (decide (b < c))
  else b

set_option maxHeartbeats 4000000 in
theorem reckon_any (op x1 x2 x3 v m wh b c : Int) (h : 1 ≤ op ∧ op ≤ 11) (w : World) :
    Calls Tryd.prog 30 #[.agg #[.int .i64 op, .int .i64 x1, .int .i64 x2, .int .i64 x3, .int .u64 v, .int .i64 m, .int .i64 wh], .int .u64 b, .int .u64 c] w fun e w' => e = .returned (.int .u64 (reckonF op v b c)) ∧ Ext w w' := by
  have hs := shiftBy_nonneg c
  have h2 : op = 1 ∨ op = 2 ∨ op = 3 ∨ op = 4 ∨ op = 5 ∨ op = 6 ∨ op = 7 ∨ op = 8 ∨ op = 9 ∨ op = 10 ∨ op = 11 := by omega
  clear h
  rcases h2 with rfl | rfl | rfl | rfl | rfl | rfl | rfl | rfl | rfl | rfl | rfl
  all_goals
    go_enter Tryd.func30, Tryd.ntmps30
    go_wp2_with (first
      | (go_at_call 49; refine (sum_any _ _ _).mono ?_; rintro e w' ⟨rfl, rfl⟩)
      | (go_at_call 50; refine (less_any _ _ _).mono ?_; rintro e w' ⟨rfl, rfl⟩)
      | (go_at_call 51; refine (flag_any _ _).mono ?_; rintro e w' ⟨rfl, rfl⟩))
    go_ret
    refine ⟨?_, ext1 _ _⟩
    first | rfl | (simp [reckonF]; done)
end Go.Proofs.YtoncebfhkoabaaaDoor
