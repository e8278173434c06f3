/- Walks of code.register and code.number: what each answers, for any argument; an instruction as seven numbers. No condition but that a code's length is at most 10^12. -/
import Derived.Test.YtoncebfhkoabaaaDoorProg
import Derived.WalkKit
import Derived.Deep.QuietTactic
import Derived.BigQuiet
namespace Go.Proofs.YtoncebfhkoabaaaDoor
open Go.RowKit

/-- An instruction. -/
structure InsD where
  op : Int
  a : Int
  b : Int
  c : Int
  v : Int
  m : Int
  wh : Int

abbrev insV (x : InsD) : Value := .agg #[.int .i64 x.op, .int .i64 x.a, .int .i64 x.b, .int .i64 x.c, .int .u64 x.v, .int .i64 x.m, .int .i64 x.wh]

abbrev Ext (w w' : World) : Prop := Below w.heap.size w w'
theorem ext1 (w : World) (o : Obj) : Ext w (w.alloc o) := (Below.refl _ _).alloc (Nat.le_refl _) _

def regF (n : Int) (used less : Bool) : Bool :=
  (used && decide (0 ≤ n) && decide (n < 32)) || (used && less && n == -1) || (!used && n == 0)

set_option maxHeartbeats 4000000 in
theorem register_any (n : Int) (used less : Bool) (w : World) :
    Calls Tryd.prog 71 #[.int .i64 n, .bool used, .bool less] w fun e w' => e = .returned (.bool (regF n used less)) ∧ w = w' := by
  go_enter Tryd.func71, Tryd.ntmps71
  go_wp2
  all_goals (go_ret; refine ⟨congrArg (fun b => Ending.returned (.bool b)) ?_, rfl⟩)
  all_goals (simp_all [regF]; try omega)

def numF (x : InsD) (used : Bool) (n : Int) : Bool :=
  if x.op = 12 ∨ x.op = 13 ∨ x.op = 14 ∨ x.op = 15 then decide (x.v < n)
  else if x.op = 22 then decide (x.v < 1000)
  else if 3 ≤ x.op ∧ x.op ≤ 11 then x.c == -1 || x.v == 0
  else if x.op = 43 then x.b == -1 || x.v == 0
  else used || x.v == 0

set_option maxHeartbeats 4000000 in
set_option maxRecDepth 100000 in
theorem number_any (x : InsD) (used : Bool) (n : Int) (h0 : 0 ≤ n) (h1 : n ≤ 1000000000000) (w : World) :
    Calls Tryd.prog 72 #[insV x, .bool used, .int .i64 n] w fun e w' => e = .returned (.bool (numF x used n)) ∧ Ext w w' := by
  go_enter Tryd.func72, Tryd.ntmps72
  go_wp2
  all_goals (go_ret; refine ⟨congrArg (fun b => Ending.returned (.bool b)) ?_, ext1 _ _⟩)
  all_goals (simp_all [numF]; try omega)
end Go.Proofs.YtoncebfhkoabaaaDoor
