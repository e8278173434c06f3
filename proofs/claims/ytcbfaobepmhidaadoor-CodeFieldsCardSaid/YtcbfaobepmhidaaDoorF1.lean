/- Walk of CodeFields: true for any operation, wherever errors.errorType holds what start-up lays. -/
import Derived.Test.YtcbfaobepmhidaaDoorC3
namespace Go.Proofs.YtcbfaobepmhidaaDoor
open Go.RowKit Go.Extern.Stop Go.Stop Go.Extern

set_option maxHeartbeats 2000000 in
theorem codeFields_walk (n : Int) (w : World) (hg : Gl w) : Calls Tryd.prog 4 #[.int .i64 n] w fun e w' => e = .returned (.bool true) ∧ Ext w w' := by
  have G := Lib.hid hg
  clear hg
  go_enter Tryd.func4, Tryd.ntmps4
  go_wp2_with (first | (go_at_call 17; refine (fields_any _ _).mono ?_; rintro e w' ⟨rfl, rfl⟩) | (go_at_call 18; refine (of_any _ _).mono ?_; unfold shapeV; rintro e w1 ⟨rfl, hx1⟩; have H1 := Lib.hid hx1; clear hx1) | (go_at_call 16; refine (awake_any _ (Gl.ext G.out (H1.out.trans ((ext1 _ _).mono H1.out.size)))).mono ?_; rintro e w2 ⟨rfl, hx2⟩; have H2 := Lib.hid hx2; clear hx2))
  go_ret
  exact ⟨rfl, (H1.out.trans ((ext1 _ _).mono H1.out.size)).trans (H2.out.mono (by have := H1.out.size; simp; omega))⟩
end Go.Proofs.YtcbfaobepmhidaaDoor
