/- Walk of the document's 'Right': what it answers of any instruction, in a code of at most 10^12. -/
import Derived.Test.YtoncebfhkoabaaaDoorA3
import Derived.Test.YtoncebfhkoabaaaDoorA4
import Derived.Deep.DeepCutAuto
import Derived.Deep.CutBlock
import Derived.Lib.Hide
namespace Go.Proofs.YtoncebfhkoabaaaDoor
open Go.RowKit

def rOp (x : InsD) (lib : Bool) : Bool := sIs x.op && !(!lib && (decide (22 < x.op) || x.m != 0)) && !(lib && x.op == 22)
def rM (x : InsD) : Bool := decide (0 ≤ x.m) && decide (x.m ≤ 99) && decide (0 ≤ x.wh) && decide (x.wh ≤ 2) && !(x.m == 0 && x.wh != 0) && !(x.wh != 0 && !fA x.op)
def isReg (n : Int) : Bool := decide (0 ≤ n) && decide (n < 32)
def rA (x : InsD) : Bool := !(fA x.op && !isReg x.a) && !(!fA x.op && x.a != 0)
def rB (x : InsD) : Bool := !(!fB x.op && x.b != 0) && !(fB x.op && !isReg x.b && !(sNoB x.op && x.b == -1))
def rC (x : InsD) : Bool := !(!fC x.op && x.c != 0) && !(fC x.op && !isReg x.c && !(sNoC x.op && x.c == -1))
def vB (x : InsD) : Bool := if x.op = 43 ∧ x.b ≠ -1 then false else fV x.op
def vC (x : InsD) : Bool := if sNoC x.op = true ∧ x.c ≠ -1 then false else vB x
def rV (x : InsD) (n : Int) : Bool := !(!vC x && x.v != 0) && !(sPlace x.op && decide (n ≤ x.v)) && !(x.op == 22 && decide (1000 ≤ x.v))
def rightF (x : InsD) (n : Int) (lib : Bool) : Bool := rOp x lib && rM x && rA x && rB x && rC x && rV x n


set_option maxHeartbeats 8000000 in
set_option maxRecDepth 100000 in
theorem right_out (x : InsD) (n : Int) (lib : Bool) (h : rOp x lib = false) (w : World) :
    Calls Tryd.prog 33 #[insV x, .int .i64 n, .bool lib] w fun e w' => e = .returned (.bool (rightF x n lib)) ∧ Ext w w' := by
  have e1 : rightF x n lib = false := by simp [rightF, h]
  rw [e1]
  have H := Lib.hid h
  clear h e1
  cases lib
  all_goals (go_enter Tryd.func33, Tryd.ntmps33; go_upto_region 4 with (first | (go_at_call 53; refine (of_any _ _).mono ?_; unfold shapeV; rintro e w1 ⟨rfl, hb⟩; have c0 : w1.cell? ⟨w.heap.size, 0, none⟩ = some (.int .i64 x.op) := (by rw [hb.cell (by simp)]; simp); have c1 : w1.cell? ⟨w.heap.size, 1, none⟩ = some (.int .i64 x.a) := (by rw [hb.cell (by simp)]; simp); have c2 : w1.cell? ⟨w.heap.size, 2, none⟩ = some (.int .i64 x.b) := (by rw [hb.cell (by simp)]; simp); have c3 : w1.cell? ⟨w.heap.size, 3, none⟩ = some (.int .i64 x.c) := (by rw [hb.cell (by simp)]; simp); have c4 : w1.cell? ⟨w.heap.size, 4, none⟩ = some (.int .u64 x.v) := (by rw [hb.cell (by simp)]; simp); have c5 : w1.cell? ⟨w.heap.size, 5, none⟩ = some (.int .i64 x.m) := (by rw [hb.cell (by simp)]; simp); have c6 : w1.cell? ⟨w.heap.size, 6, none⟩ = some (.int .i64 x.wh) := (by rw [hb.cell (by simp)]; simp); have hz : w.heap.size < w1.heap.size := (by have := hb.size; simp at this; omega); have hx : Ext w w1 := (ext1 w _).trans (hb.mono (by simp)); clear hb)))
  all_goals first
    | (go_ret; exact ⟨rfl, hx.alloc hx.size _⟩)
    | (exfalso; have h := H.out; simp only [rOp] at h; simp_all; try omega)


theorem Bq {a b : Bool} (h : a = true ↔ b = true) : a = b := by cases a <;> cases b <;> simp_all

/-- What the first statements of 'Right' leave: the instruction in its variable, its row in the next. -/
def Laid (x : InsD) (w wx : World) (t : Nat) : Prop := wx.cell? ⟨w.heap.size, 0, none⟩ = some (.int .i64 x.op) ∧ wx.cell? ⟨w.heap.size, 1, none⟩ = some (.int .i64 x.a) ∧ wx.cell? ⟨w.heap.size, 2, none⟩ = some (.int .i64 x.b) ∧ wx.cell? ⟨w.heap.size, 3, none⟩ = some (.int .i64 x.c) ∧ wx.cell? ⟨w.heap.size, 4, none⟩ = some (.int .u64 x.v) ∧ wx.cell? ⟨w.heap.size, 5, none⟩ = some (.int .i64 x.m) ∧ wx.cell? ⟨w.heap.size, 6, none⟩ = some (.int .i64 x.wh) ∧ wx.cell? ⟨t, 0, none⟩ = some (.bool (fA x.op)) ∧ wx.cell? ⟨t, 1, none⟩ = some (.bool (fB x.op)) ∧ wx.cell? ⟨t, 2, none⟩ = some (.bool (fC x.op)) ∧ wx.cell? ⟨t, 3, none⟩ = some (.bool (fV x.op)) ∧ wx.cell? ⟨t, 4, none⟩ = some (.bool (sNoB x.op)) ∧ wx.cell? ⟨t, 5, none⟩ = some (.bool (sNoC x.op)) ∧ wx.cell? ⟨t, 6, none⟩ = some (.bool (sPlace x.op)) ∧ wx.cell? ⟨t, 7, none⟩ = some (.bool (true))
theorem laid_mk (x : InsD) (w w1 : World) (hz : w.heap.size < w1.heap.size) (c0 : w1.cell? ⟨w.heap.size, 0, none⟩ = some (.int .i64 x.op)) (c1 : w1.cell? ⟨w.heap.size, 1, none⟩ = some (.int .i64 x.a)) (c2 : w1.cell? ⟨w.heap.size, 2, none⟩ = some (.int .i64 x.b)) (c3 : w1.cell? ⟨w.heap.size, 3, none⟩ = some (.int .i64 x.c)) (c4 : w1.cell? ⟨w.heap.size, 4, none⟩ = some (.int .u64 x.v)) (c5 : w1.cell? ⟨w.heap.size, 5, none⟩ = some (.int .i64 x.m)) (c6 : w1.cell? ⟨w.heap.size, 6, none⟩ = some (.int .i64 x.wh)) : Laid x w (w1.alloc (.cells #[.bool (fA x.op), .bool (fB x.op), .bool (fC x.op), .bool (fV x.op), .bool (sNoB x.op), .bool (sNoC x.op), .bool (sPlace x.op), .bool (true)] 109)) w1.heap.size := by
  refine ⟨?_, ?_, ?_, ?_, ?_, ?_, ?_, ?_, ?_, ?_, ?_, ?_, ?_, ?_, ?_⟩ <;> first | (simp; done) | (rw [World.cell?_alloc_past _ _ _ hz]; assumption)

set_option maxHeartbeats 8000000 in
set_option maxRecDepth 100000 in
theorem right_t (x : InsD) (n : Int) (h0 : 0 ≤ n) (h1 : n ≤ 1000000000000) (hs : sIs x.op = true) (h6 : (x.op == 22) = false) (w : World) :
    Calls Tryd.prog 33 #[insV x, .int .i64 n, .bool true] w fun e w' => e = .returned (.bool (rM x && rA x && rB x && rC x && rV x n)) ∧ Ext w w' := by
  go_enter Tryd.func33, Tryd.ntmps33
  go_upto_region 4 with (first | (go_at_call 53; refine (of_any _ _).mono ?_; unfold shapeV; rintro e w1 ⟨rfl, hb⟩; have c0 : w1.cell? ⟨w.heap.size, 0, none⟩ = some (.int .i64 x.op) := (by rw [hb.cell (by simp)]; simp); have c1 : w1.cell? ⟨w.heap.size, 1, none⟩ = some (.int .i64 x.a) := (by rw [hb.cell (by simp)]; simp); have c2 : w1.cell? ⟨w.heap.size, 2, none⟩ = some (.int .i64 x.b) := (by rw [hb.cell (by simp)]; simp); have c3 : w1.cell? ⟨w.heap.size, 3, none⟩ = some (.int .i64 x.c) := (by rw [hb.cell (by simp)]; simp); have c4 : w1.cell? ⟨w.heap.size, 4, none⟩ = some (.int .u64 x.v) := (by rw [hb.cell (by simp)]; simp); have c5 : w1.cell? ⟨w.heap.size, 5, none⟩ = some (.int .i64 x.m) := (by rw [hb.cell (by simp)]; simp); have c6 : w1.cell? ⟨w.heap.size, 6, none⟩ = some (.int .i64 x.wh) := (by rw [hb.cell (by simp)]; simp); have hz : w.heap.size < w1.heap.size := (by have := hb.size; simp at this; omega); have hx : Ext w w1 := (ext1 w _).trans (hb.mono (by simp)); clear hb))
  have hL := laid_mk x w w1 hz c0 c1 c2 c3 c4 c5 c6
  have hE : Ext w (w1.alloc (.cells #[.bool (fA x.op), .bool (fB x.op), .bool (fC x.op), .bool (fV x.op), .bool (sNoB x.op), .bool (sNoC x.op), .bool (sPlace x.op), .bool (true)] 109)) := hx.alloc hx.size _
  generalize w1.alloc (.cells #[.bool (fA x.op), .bool (fB x.op), .bool (fC x.op), .bool (fV x.op), .bool (sNoB x.op), .bool (sNoC x.op), .bool (sPlace x.op), .bool (true)] 109) = W at hL hE ⊢
  clear c0 c1 c2 c3 c4 c5 c6 hx
  obtain ⟨c0, c1, c2, c3, c4, c5, c6, s0, s1, s2, s3, s4, s5, s6, s7⟩ := hL
  have hE := Lib.hid hE
  go_cut [74] (fun s wx => s = .bool (!rM x) ∧ wx = W)
  case first => as_aux_lemma =>
    go_wp2
    all_goals (go_meet; refine ⟨congrArg Value.bool (Bq ?_), rfl⟩; go_tidy; grind [rM])
  case rest => as_aux_lemma =>
    obtain ⟨rfl, rfl⟩ := hcut
    go_upto_region 6 with fail
    all_goals first | (go_ret; have hE := hE.out; refine ⟨congrArg (fun b => Ending.returned (.bool b)) (Bq ?_), hE⟩; have hq := ‹(!_) = true›; simp at hq; simp [hq]; done) | skip
    have hM : rM x = true := (by have hq := ‹(!_) = false›; simpa using hq)
    go_cut [92] (fun s wx => s = .bool (!rA x) ∧ wx = wc)
    case first => as_aux_lemma =>
      go_wp2_with (first | (go_at_call 54; refine (reg_any _ _).mono ?_; rintro e w2 ⟨rfl, rfl⟩))
      all_goals (go_meet; refine ⟨congrArg Value.bool (Bq ?_), rfl⟩; go_tidy; grind [rA, isReg])
    case rest => as_aux_lemma =>
      obtain ⟨rfl, rfl⟩ := hcut
      go_upto_block 0 with fail
      all_goals first | (go_ret; have hE := hE.out; refine ⟨congrArg (fun b => Ending.returned (.bool b)) (Bq ?_), hE⟩; have hq := ‹(!_) = true›; simp at hq; simp [hq]; done) | skip
      have hA : rA x = true := (by have hq := ‹(!_) = false›; simpa using hq)
      go_cut [8] (fun s wx => (rB x = true ∧ s = .bool (vB x)) ∧ wx = wc)
      case first => as_aux_lemma =>
        go_wp2_with (first | (go_at_call 54; refine (reg_any _ _).mono ?_; rintro e w2 ⟨rfl, rfl⟩))
        all_goals first
          | (go_meet; refine ⟨⟨?_, congrArg Value.bool (Bq ?_)⟩, rfl⟩ <;> go_tidy <;> grind [rB, isReg, vB])
          | (go_ret; have hE := hE.out; refine ⟨congrArg (fun b => Ending.returned (.bool b)) (Bq ?_), hE⟩; go_tidy; grind [rB, isReg])
      case rest => as_aux_lemma =>
        obtain ⟨⟨hrB, rfl⟩, rfl⟩ := hcut
        go_upto_block 1 with fail
        all_goals first | (go_ret; have hE := hE.out; refine ⟨congrArg (fun b => Ending.returned (.bool b)) (Bq ?_), hE⟩; have hq := ‹(!_) = true›; simp at hq; simp [hq]; done) | skip
        go_cut [8] (fun s wx => (rC x = true ∧ s = .bool (vC x)) ∧ wx = wc)
        case first => as_aux_lemma =>
          go_wp2_with (first | (go_at_call 54; refine (reg_any _ _).mono ?_; rintro e w2 ⟨rfl, rfl⟩))
          all_goals first
            | (go_meet; refine ⟨⟨?_, congrArg Value.bool (Bq ?_)⟩, rfl⟩ <;> go_tidy <;> grind [rC, isReg, vC])
            | (go_ret; have hE := hE.out; refine ⟨congrArg (fun b => Ending.returned (.bool b)) (Bq ?_), hE⟩; go_tidy; grind [rC, isReg])
        case rest => as_aux_lemma =>
          obtain ⟨⟨hrC, rfl⟩, rfl⟩ := hcut
          go_wp2_with fail
          all_goals (go_ret; have hE := hE.out; refine ⟨congrArg (fun b => Ending.returned (.bool b)) (Bq ?_), hE⟩; go_tidy; grind [rV])

set_option maxHeartbeats 8000000 in
set_option maxRecDepth 100000 in
theorem right_f (x : InsD) (n : Int) (h0 : 0 ≤ n) (h1 : n ≤ 1000000000000) (hs : sIs x.op = true) (h6 : x.op ≤ 22) (h7 : (x.m != 0) = false) (w : World) :
    Calls Tryd.prog 33 #[insV x, .int .i64 n, .bool false] w fun e w' => e = .returned (.bool (rM x && rA x && rB x && rC x && rV x n)) ∧ Ext w w' := by
  go_enter Tryd.func33, Tryd.ntmps33
  go_upto_region 4 with (first | (go_at_call 53; refine (of_any _ _).mono ?_; unfold shapeV; rintro e w1 ⟨rfl, hb⟩; have c0 : w1.cell? ⟨w.heap.size, 0, none⟩ = some (.int .i64 x.op) := (by rw [hb.cell (by simp)]; simp); have c1 : w1.cell? ⟨w.heap.size, 1, none⟩ = some (.int .i64 x.a) := (by rw [hb.cell (by simp)]; simp); have c2 : w1.cell? ⟨w.heap.size, 2, none⟩ = some (.int .i64 x.b) := (by rw [hb.cell (by simp)]; simp); have c3 : w1.cell? ⟨w.heap.size, 3, none⟩ = some (.int .i64 x.c) := (by rw [hb.cell (by simp)]; simp); have c4 : w1.cell? ⟨w.heap.size, 4, none⟩ = some (.int .u64 x.v) := (by rw [hb.cell (by simp)]; simp); have c5 : w1.cell? ⟨w.heap.size, 5, none⟩ = some (.int .i64 x.m) := (by rw [hb.cell (by simp)]; simp); have c6 : w1.cell? ⟨w.heap.size, 6, none⟩ = some (.int .i64 x.wh) := (by rw [hb.cell (by simp)]; simp); have hz : w.heap.size < w1.heap.size := (by have := hb.size; simp at this; omega); have hx : Ext w w1 := (ext1 w _).trans (hb.mono (by simp)); clear hb))
  have hL := laid_mk x w w1 hz c0 c1 c2 c3 c4 c5 c6
  have hE : Ext w (w1.alloc (.cells #[.bool (fA x.op), .bool (fB x.op), .bool (fC x.op), .bool (fV x.op), .bool (sNoB x.op), .bool (sNoC x.op), .bool (sPlace x.op), .bool (true)] 109)) := hx.alloc hx.size _
  generalize w1.alloc (.cells #[.bool (fA x.op), .bool (fB x.op), .bool (fC x.op), .bool (fV x.op), .bool (sNoB x.op), .bool (sNoC x.op), .bool (sPlace x.op), .bool (true)] 109) = W at hL hE ⊢
  clear c0 c1 c2 c3 c4 c5 c6 hx
  obtain ⟨c0, c1, c2, c3, c4, c5, c6, s0, s1, s2, s3, s4, s5, s6, s7⟩ := hL
  have hE := Lib.hid hE
  go_cut [74] (fun s wx => s = .bool (!rM x) ∧ wx = W)
  case first => as_aux_lemma =>
    go_wp2
    all_goals (go_meet; refine ⟨congrArg Value.bool (Bq ?_), rfl⟩; go_tidy; grind [rM])
  case rest => as_aux_lemma =>
    obtain ⟨rfl, rfl⟩ := hcut
    go_upto_region 6 with fail
    all_goals first | (go_ret; have hE := hE.out; refine ⟨congrArg (fun b => Ending.returned (.bool b)) (Bq ?_), hE⟩; have hq := ‹(!_) = true›; simp at hq; simp [hq]; done) | skip
    have hM : rM x = true := (by have hq := ‹(!_) = false›; simpa using hq)
    go_cut [92] (fun s wx => s = .bool (!rA x) ∧ wx = wc)
    case first => as_aux_lemma =>
      go_wp2_with (first | (go_at_call 54; refine (reg_any _ _).mono ?_; rintro e w2 ⟨rfl, rfl⟩))
      all_goals (go_meet; refine ⟨congrArg Value.bool (Bq ?_), rfl⟩; go_tidy; grind [rA, isReg])
    case rest => as_aux_lemma =>
      obtain ⟨rfl, rfl⟩ := hcut
      go_upto_block 0 with fail
      all_goals first | (go_ret; have hE := hE.out; refine ⟨congrArg (fun b => Ending.returned (.bool b)) (Bq ?_), hE⟩; have hq := ‹(!_) = true›; simp at hq; simp [hq]; done) | skip
      have hA : rA x = true := (by have hq := ‹(!_) = false›; simpa using hq)
      go_cut [8] (fun s wx => (rB x = true ∧ s = .bool (vB x)) ∧ wx = wc)
      case first => as_aux_lemma =>
        go_wp2_with (first | (go_at_call 54; refine (reg_any _ _).mono ?_; rintro e w2 ⟨rfl, rfl⟩))
        all_goals first
          | (go_meet; refine ⟨⟨?_, congrArg Value.bool (Bq ?_)⟩, rfl⟩ <;> go_tidy <;> grind [rB, isReg, vB])
          | (go_ret; have hE := hE.out; refine ⟨congrArg (fun b => Ending.returned (.bool b)) (Bq ?_), hE⟩; go_tidy; grind [rB, isReg])
      case rest => as_aux_lemma =>
        obtain ⟨⟨hrB, rfl⟩, rfl⟩ := hcut
        go_upto_block 1 with fail
        all_goals first | (go_ret; have hE := hE.out; refine ⟨congrArg (fun b => Ending.returned (.bool b)) (Bq ?_), hE⟩; have hq := ‹(!_) = true›; simp at hq; simp [hq]; done) | skip
        go_cut [8] (fun s wx => (rC x = true ∧ s = .bool (vC x)) ∧ wx = wc)
        case first => as_aux_lemma =>
          go_wp2_with (first | (go_at_call 54; refine (reg_any _ _).mono ?_; rintro e w2 ⟨rfl, rfl⟩))
          all_goals first
            | (go_meet; refine ⟨⟨?_, congrArg Value.bool (Bq ?_)⟩, rfl⟩ <;> go_tidy <;> grind [rC, isReg, vC])
            | (go_ret; have hE := hE.out; refine ⟨congrArg (fun b => Ending.returned (.bool b)) (Bq ?_), hE⟩; go_tidy; grind [rC, isReg])
        case rest => as_aux_lemma =>
          obtain ⟨⟨hrC, rfl⟩, rfl⟩ := hcut
          go_wp2_with fail
          all_goals (go_ret; have hE := hE.out; refine ⟨congrArg (fun b => Ending.returned (.bool b)) (Bq ?_), hE⟩; go_tidy; grind [rV])


theorem right_any (x : InsD) (n : Int) (lib : Bool) (h0 : 0 ≤ n) (h1 : n ≤ 1000000000000) (w : World) :
    Calls Tryd.prog 33 #[insV x, .int .i64 n, .bool lib] w fun e w' => e = .returned (.bool (rightF x n lib)) ∧ Ext w w' := by
  by_cases h : rOp x lib = true
  · have e : rightF x n lib = (rM x && rA x && rB x && rC x && rV x n) := by simp [rightF, h]
    rw [e]
    simp only [rOp, Bool.and_eq_true, Bool.not_eq_true', Bool.and_eq_false_iff, Bool.not_eq_false', Bool.or_eq_false_iff, decide_eq_false_iff_not] at h
    obtain ⟨⟨hs, h2⟩, h3⟩ := h
    cases lib
    · simp only [Bool.false_eq_true, false_or] at h2
      exact right_f x n h0 h1 hs (by have := h2.1; omega) h2.2 w
    · simp only [Bool.true_eq_false, false_or] at h3
      exact right_t x n h0 h1 hs h3 w
  · exact right_out x n lib (by simpa using h) w
end Go.Proofs.YtoncebfhkoabaaaDoor
