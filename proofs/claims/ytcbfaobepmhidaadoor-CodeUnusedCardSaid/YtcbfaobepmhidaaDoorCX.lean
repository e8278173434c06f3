/- CodeUnused's walk, its three cases joined. -/
import Derived.Test.YtcbfaobepmhidaaDoorC9a
import Derived.Test.YtcbfaobepmhidaaDoorC9b
import Derived.Test.YtcbfaobepmhidaaDoorC9c
namespace Go.Proofs.YtcbfaobepmhidaaDoor
theorem codeUnused_walk (x : InsD) (n0 q0 : Int) (hn1 : -9223372036854775808 ≤ n0) (hn2 : n0 < 9223372036854775808) (hq1 : -9223372036854775808 ≤ q0) (hq2 : q0 < 9223372036854775808) (w : World) (hg : Gl w) :
    Calls Tryd.prog 6 #[insV x, .int .i64 n0, .int .i64 q0] w fun e w' => e = .returned (.bool true) ∧ Ext w w' := by
  by_cases h1 : q0 < 1
  · exact codeUnused_walk_a x n0 q0 hn1 hn2 hq1 hq2 h1 w hg
  · by_cases h2 : 1000000 < q0
    · exact codeUnused_walk_b x n0 q0 hn1 hn2 hq1 hq2 h2 w hg
    · exact codeUnused_walk_c x n0 q0 hn1 hn2 hq1 hq2 ⟨by omega, by omega⟩ w hg
end Go.Proofs.YtcbfaobepmhidaaDoor
