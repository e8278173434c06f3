/- Walk of CodeUnused: true for any input, wherever errors.errorType holds what start-up lays. -/
import Derived.Test.YtcbfaobepmhidaaDoorC7
import Derived.Test.YtcbfaobepmhidaaDoorT1
import Derived.Deep.DeepCutAuto
import Derived.RegionTactic
namespace Go.Proofs.YtcbfaobepmhidaaDoor
open Go.RowKit Go.Extern.Stop Go.Stop Go.Extern

theorem may_f {x : InsD} {n : Int} (h : okF x n = false) : mayF x n true = false := by unfold mayF; rw [h]; simp
theorem reg_yes {q : Int} (h : 1 ≤ q) (less : Bool) : regF (31 + q) true less = false := by
  unfold regF
  have h1 : (31 + q == -1) = false := beq_eq_false_iff_ne.2 (by omega)
  have h2 : decide (31 + q < 32) = false := decide_eq_false (by omega)
  simp [h1, h2]
theorem reg_no {q : Int} (h : 1 ≤ q) (less : Bool) : regF q false less = false := by
  unfold regF
  have h1 : (q == 0) = false := beq_eq_false_iff_ne.2 (by omega)
  simp [h1]
section
variable (op a b c v m wh q n : Int) (hq : 1 ≤ q)
include hq
theorem un_A1 (h : fA op = true) : mayF ⟨op, 31 + q, b, c, v, m, wh⟩ n true = false := may_f (by unfold okF; show (regF (31 + q) (fA op) false && _ && _ && _) = false; rw [h, reg_yes hq]; simp)
theorem un_A0 (h : fA op = false) : mayF ⟨op, q, b, c, v, m, wh⟩ n true = false := may_f (by unfold okF; show (regF q (fA op) false && _ && _ && _) = false; rw [h, reg_no hq]; simp)
theorem un_B1 (h : fB op = true) : mayF ⟨op, a, 31 + q, c, v, m, wh⟩ n true = false := may_f (by unfold okF; show (_ && regF (31 + q) (fB op) (sNoB op) && _ && _) = false; rw [h, reg_yes hq]; simp)
theorem un_B0 (h : fB op = false) : mayF ⟨op, a, q, c, v, m, wh⟩ n true = false := may_f (by unfold okF; show (_ && regF q (fB op) (sNoB op) && _ && _) = false; rw [h, reg_no hq]; simp)
theorem un_C1 (h : fC op = true) : mayF ⟨op, a, b, 31 + q, v, m, wh⟩ n true = false := may_f (by unfold okF; show (_ && _ && regF (31 + q) (fC op) (sNoC op) && _) = false; rw [h, reg_yes hq]; simp)
theorem un_C0 (h : fC op = false) : mayF ⟨op, a, b, q, v, m, wh⟩ n true = false := may_f (by unfold okF; show (_ && _ && regF q (fC op) (sNoC op) && _) = false; rw [h, reg_no hq]; simp)
theorem un_V (h : fV op = false) : mayF ⟨op, a, b, c, q, m, wh⟩ n true = false := by
  refine may_f ?_
  have h1 : ¬ (op = 12 ∨ op = 13 ∨ op = 14 ∨ op = 15) := by rintro (rfl | rfl | rfl | rfl) <;> simp [fV] at h
  have h2 : ¬ op = 22 := by rintro rfl; simp [fV] at h
  have h3 : ¬ (3 ≤ op ∧ op ≤ 11) := by
    intro h3
    have : op = 3 ∨ op = 4 ∨ op = 5 ∨ op = 6 ∨ op = 7 ∨ op = 8 ∨ op = 9 ∨ op = 10 ∨ op = 11 := by omega
    rcases this with rfl | rfl | rfl | rfl | rfl | rfl | rfl | rfl | rfl <;> simp [fV] at h
  have h4 : ¬ op = 43 := by rintro rfl; simp [fV] at h
  have h5 : (q == 0) = false := beq_eq_false_iff_ne.2 (by omega)
  unfold okF
  simp only [numF, h1, h2, h3, h4, if_false, h, h5, Bool.false_or, Bool.and_false]
end

theorem alone_f (op a b c v m wh : Int) (n : Nat) (h1 : 1 ≤ n) (h2 : n ≤ 2000) (hf : mayF ⟨op, a, b, c, v, m, wh⟩ n true = false) (w : World) :
    Calls Tryd.prog 19 #[.agg #[.int .i64 op, .int .i64 a, .int .i64 b, .int .i64 c, .int .u64 v, .int .i64 m, .int .i64 wh], .int .i64 n, .bool true] w fun e w' => e = .returned (.bool false) ∧ Ext w w' := by
  have h := alone_any ⟨op, a, b, c, v, m, wh⟩ n true h1 h2 w
  rw [hf] at h
  exact h

end Go.Proofs.YtcbfaobepmhidaaDoor
