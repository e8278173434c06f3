/- Walk of code.may: what it answers of any instruction, in a code of at most 10^12. -/
import Derived.Test.YtoncebfhkoabaaaDoorA2
import Derived.Deep.DeepCutAuto
import Derived.Deep.CutBlock
import Derived.Lib.Hide
namespace Go.Proofs.YtoncebfhkoabaaaDoor
open Go.RowKit

def okM (x : InsD) : Bool := decide (0 ≤ x.m) && decide (x.m ≤ 99) && decide (0 ≤ x.wh) && decide (x.wh ≤ 2) && (x.wh == 0 || (decide (0 < x.m) && fA x.op))
def okOp (x : InsD) (lib : Bool) : Bool := decide (1 ≤ x.op) && decide (x.op ≤ 58) && !(lib && x.op == 22) && !(!lib && (decide (22 < x.op) || x.m != 0))
def okF (x : InsD) (n : Int) : Bool := regF x.a (fA x.op) false && regF x.b (fB x.op) (sNoB x.op) && regF x.c (fC x.op) (sNoC x.op) && numF x (fV x.op) n
def mayF (x : InsD) (n : Int) (lib : Bool) : Bool := okOp x lib && okF x n && okM x


set_option maxHeartbeats 4000000 in
set_option maxRecDepth 100000 in
theorem may_out (x : InsD) (n : Int) (lib : Bool) (h : okOp x lib = false) (w : World) :
    Calls Tryd.prog 65 #[insV x, .int .i64 n, .bool lib] w fun e w' => e = .returned (.bool (mayF x n lib)) ∧ Ext w w' := by
  have H := Lib.hid h
  clear h
  cases lib
  all_goals (go_enter Tryd.func65, Tryd.ntmps65; go_upto_region 3 with fail)
  all_goals first
    | (go_ret; refine ⟨congrArg (fun b => Ending.returned (.bool b)) ?_, ext1 _ _⟩; have h := H.out; simp only [mayF, h, Bool.false_and]; done)
    | (exfalso; have h := H.out; simp only [okOp] at h; simp_all; try omega)

def restF (x : InsD) (n : Int) : Bool := okF x n && okM x
set_option maxHeartbeats 4000000 in
set_option maxRecDepth 100000 in
theorem may_in (x : InsD) (n : Int) (lib : Bool) (h0 : 0 ≤ n) (h1 : n ≤ 1000000000000) (h2 : 1 ≤ x.op) (h3 : x.op ≤ 58) (h4 : lib = true → (x.op == 22) = false) (h5 : lib = false → x.op ≤ 22 ∧ (x.m != 0) = false) (w : World) :
    Calls Tryd.prog 65 #[insV x, .int .i64 n, .bool lib] w fun e w' => e = .returned (.bool (restF x n)) ∧ Ext w w' := by
  go_enter Tryd.func65, Tryd.ntmps65
  cases lib
  case' false => obtain ⟨h6, h7⟩ := h5 rfl; clear h4 h5
  case' true => have h6 := h4 rfl; clear h4 h5
  all_goals go_upto_block 0 with (first | (go_at_call 70; refine (fields_any _ _).mono ?_; rintro e w' ⟨rfl, rfl⟩))
  · go_cut [11, 12] (fun s t wx => s = .bool (sNoB x.op) ∧ t = .bool (sNoC x.op) ∧ wx = w.alloc (.cells #[.int .i64 x.op, .int .i64 x.a, .int .i64 x.b, .int .i64 x.c, .int .u64 x.v, .int .i64 x.m, .int .i64 x.wh] 52))
    case first =>
      go_wp2
      all_goals (go_meet; refine ⟨congrArg Value.bool ?_, congrArg Value.bool ?_, rfl⟩)
      all_goals (simp_all [sNoB, sNoC])
    case rest =>
      obtain ⟨rfl, rfl, rfl⟩ := hcut
      go_wp2_with (first | (go_at_call 71; refine (register_any _ _ _ _).mono ?_; rintro e w' ⟨rfl, rfl⟩) | (go_at_call 72; refine (number_any x _ _ h0 h1 _).mono ?_; rintro e w1 ⟨rfl, hb⟩; have c5 : w1.cell? ⟨w.heap.size, 5, none⟩ = some (.int .i64 x.m) := (by rw [hb.cell (by simp)]; simp); have c6 : w1.cell? ⟨w.heap.size, 6, none⟩ = some (.int .i64 x.wh) := (by rw [hb.cell (by simp)]; simp); have hx : Ext w w1 := (ext1 w _).trans (hb.mono (by simp)); clear hb))
      all_goals (go_ret; refine ⟨congrArg (fun b => Ending.returned (.bool b)) ?_, by first | assumption | exact ext1 _ _⟩)
      all_goals (simp_all [restF, okF, okM]; try omega)
  · go_cut [11, 12] (fun s t wx => s = .bool (sNoB x.op) ∧ t = .bool (sNoC x.op) ∧ wx = w.alloc (.cells #[.int .i64 x.op, .int .i64 x.a, .int .i64 x.b, .int .i64 x.c, .int .u64 x.v, .int .i64 x.m, .int .i64 x.wh] 52))
    case first =>
      go_wp2
      all_goals (go_meet; refine ⟨congrArg Value.bool ?_, congrArg Value.bool ?_, rfl⟩)
      all_goals (simp_all [sNoB, sNoC])
    case rest =>
      obtain ⟨rfl, rfl, rfl⟩ := hcut
      go_wp2_with (first | (go_at_call 71; refine (register_any _ _ _ _).mono ?_; rintro e w' ⟨rfl, rfl⟩) | (go_at_call 72; refine (number_any x _ _ h0 h1 _).mono ?_; rintro e w1 ⟨rfl, hb⟩; have c5 : w1.cell? ⟨w.heap.size, 5, none⟩ = some (.int .i64 x.m) := (by rw [hb.cell (by simp)]; simp); have c6 : w1.cell? ⟨w.heap.size, 6, none⟩ = some (.int .i64 x.wh) := (by rw [hb.cell (by simp)]; simp); have hx : Ext w w1 := (ext1 w _).trans (hb.mono (by simp)); clear hb))
      all_goals (go_ret; refine ⟨congrArg (fun b => Ending.returned (.bool b)) ?_, by first | assumption | exact ext1 _ _⟩)
      all_goals (simp_all [restF, okF, okM]; try omega)
end Go.Proofs.YtoncebfhkoabaaaDoor
