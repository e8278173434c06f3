/- Walks of code.Fields and of the document's row 'Of': what each answers, for any operation. -/
import Derived.Test.YtoncebfhkoabaaaDoorA1
namespace Go.Proofs.YtoncebfhkoabaaaDoor
open Go.RowKit

def fA (n : Int) : Bool := [1,2,3,4,5,6,7,8,9,10,11,13,14,17,18,19,20,21,23,24,25,26,27,28,29,30,31,32,34,35,36,37,38,39,40,41,42,43,44,45,46,47,48,49,50,51,52,53,54,57].contains n
def fB (n : Int) : Bool := [2,3,4,5,6,7,8,9,10,11,17,18,19,20,21,23,24,25,26,27,31,32,39,43,45,47,48,49,50,54].contains n
def fC (n : Int) : Bool := [3,4,5,6,7,8,9,10,11,21,24,25,26,27,32,48].contains n
def fV (n : Int) : Bool := [1,3,4,5,6,7,8,9,10,11,12,13,14,15,17,18,19,20,21,22,31,32,43,45].contains n

set_option maxHeartbeats 4000000 in
set_option maxRecDepth 100000 in
theorem fields_any (n : Int) (w : World) :
    Calls Tryd.prog 70 #[.int .i64 n] w fun e w' => e = .returned (.tuple #[.bool (fA n), .bool (fB n), .bool (fC n), .bool (fV n)]) ∧ w = w' := by
  go_enter Tryd.func70, Tryd.ntmps70
  go_wp2
  all_goals (refine bodyPost_ret (v := .tuple #[.bool (fA n), .bool (fB n), .bool (fC n), .bool (fV n)]) (by simp_all [results, Tryd.results70, fA, fB, fC, fV]) rfl ⟨rfl, rfl⟩)
def sNoB (n : Int) : Bool := [17,18,19,20,21,31,32,43].contains n
def sNoC (n : Int) : Bool := [3,4,5,6,7,8,9,10,11].contains n
def sPlace (n : Int) : Bool := [12,13,14,15].contains n
def sIs (n : Int) : Bool := decide (1 ≤ n) && decide (n ≤ 58)
def shapeV (n : Int) : Value := .agg #[.bool (fA n), .bool (fB n), .bool (fC n), .bool (fV n), .bool (sNoB n), .bool (sNoC n), .bool (sPlace n), .bool (sIs n)]

end Go.Proofs.YtoncebfhkoabaaaDoor
