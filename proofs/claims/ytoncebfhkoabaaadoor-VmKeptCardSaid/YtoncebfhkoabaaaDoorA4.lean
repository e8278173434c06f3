/- Walks of the document's 'reg' and of distaffkeep.Within, for any argument in int's range. -/
import Derived.Test.YtoncebfhkoabaaaDoorA1
namespace Go.Proofs.YtoncebfhkoabaaaDoor
open Go.RowKit
theorem reg_any (n : Int) (w : World) :
    Calls Tryd.prog 54 #[.int .i64 n] w fun e w' => e = .returned (.bool (decide (0 ≤ n) && decide (n < 32))) ∧ w = w' := by
  go_enter Tryd.func54, Tryd.ntmps54
  go_wp2
  all_goals (go_ret; refine ⟨congrArg (fun b => Ending.returned (.bool b)) ?_, rfl⟩)
  all_goals (simp_all; try omega)

theorem tmod_low (v n : Int) (h : 1 ≤ n) (h1 : v.tmod n < 0) : v.tmod n + n = v % n ∧ 0 ≤ v % n ∧ v % n < n := by
  have a := Int.tmod_eq_emod (a := v) (b := n)
  have b := Int.emod_nonneg v (show n ≠ 0 by omega)
  have c := Int.emod_lt_of_pos v (show 0 < n by omega)
  split at a <;> omega
theorem tmod_high (v n : Int) (h : 1 ≤ n) (h1 : 0 ≤ v.tmod n) : v.tmod n = v % n := by
  have a := Int.tmod_eq_emod (a := v) (b := n)
  have b := Int.emod_nonneg v (show n ≠ 0 by omega)
  have c := Int.emod_lt_of_pos v (show 0 < n by omega)
  split at a <;> omega
theorem within_any (v n : Int) (_h1 : -9223372036854775808 ≤ v) (_h2 : v < 9223372036854775808) (h3 : 1 ≤ n) (h4 : n ≤ 1000000000000) (w : World) :
    Calls Tryd.prog 9 #[.int .i64 v, .int .i64 n] w fun e w' => e = .returned (.int .i64 (v % n)) ∧ w = w' := by
  go_enter Tryd.func9, Tryd.ntmps9
  go_wp2
  all_goals (go_ret; refine ⟨congrArg (fun b => Ending.returned (.int .i64 b)) ?_, rfl⟩)
  · rename_i h
    obtain ⟨a, b, c⟩ := tmod_low v n h3 h
    rw [a]; unfold wrap64; omega
  · rename_i h; exact tmod_high v n h3 h
end Go.Proofs.YtoncebfhkoabaaaDoor
