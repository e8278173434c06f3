/- Walk of the document's row 'Of': what it answers, for any operation. -/
import Derived.Test.YtoncebfhkoabaaaDoorA2
namespace Go.Proofs.YtoncebfhkoabaaaDoor
open Go.RowKit

set_option maxHeartbeats 4000000 in
set_option maxRecDepth 100000 in
theorem of_any (n : Int) (w : World) :
    Calls Tryd.prog 53 #[.int .i64 n] w fun e w' => e = .returned (shapeV n) ∧ Ext w w' := by
  go_enter Tryd.func53, Tryd.ntmps53
  go_wp2
  all_goals (refine bodyPost_ret (v := shapeV n) ?_ rfl ⟨rfl, (ext1 _ _).alloc (by simp) _⟩)
  all_goals (simp_all [results, Tryd.results53, go_sem, shapeV, fA, fB, fC, fV, sNoB, sNoC, sPlace, sIs])
  all_goals omega
end Go.Proofs.YtoncebfhkoabaaaDoor
