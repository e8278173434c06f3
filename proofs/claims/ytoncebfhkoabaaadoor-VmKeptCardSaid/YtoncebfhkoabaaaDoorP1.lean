/- The plain law: what code.may answers is what the document's 'Right' answers, of any instruction. -/
import Derived.Test.YtoncebfhkoabaaaDoorA5
import Derived.Test.YtoncebfhkoabaaaDoorA7
namespace Go.Proofs.YtoncebfhkoabaaaDoor

theorem okOp_rOp (x : InsD) (lib : Bool) : okOp x lib = rOp x lib := by
  unfold okOp rOp sIs
  cases lib <;> simp [Bool.and_assoc, Bool.and_comm, Bool.and_left_comm]
theorem okM_rM (x : InsD) : okM x = rM x := by
  unfold okM rM
  rw [Bool.eq_iff_iff]
  cases h : fA x.op <;> simp <;> omega
theorem regF_rA (x : InsD) : regF x.a (fA x.op) false = rA x := by
  unfold regF rA isReg
  rw [Bool.eq_iff_iff]
  cases h : fA x.op <;> simp
theorem regF_rB (x : InsD) : regF x.b (fB x.op) (sNoB x.op) = rB x := by
  unfold regF rB isReg
  rw [Bool.eq_iff_iff]
  cases h : fB x.op <;> cases h2 : sNoB x.op <;> simp <;> omega
theorem regF_rC (x : InsD) : regF x.c (fC x.op) (sNoC x.op) = rC x := by
  unfold regF rC isReg
  rw [Bool.eq_iff_iff]
  cases h : fC x.op <;> cases h2 : sNoC x.op <;> simp <;> omega

theorem numF_rV (x : InsD) (n : Int) : numF x (fV x.op) n = rV x n := by
  obtain ⟨op, a, b, c, v, m, wh⟩ := x
  show numF ⟨op, a, b, c, v, m, wh⟩ (fV op) n = rV ⟨op, a, b, c, v, m, wh⟩ n
  rw [Bool.eq_iff_iff]
  by_cases h1 : op = 12 ∨ op = 13 ∨ op = 14 ∨ op = 15
  · rcases h1 with rfl | rfl | rfl | rfl <;> simp [numF, rV, vC, vB, sNoC, sPlace, fV]
  · by_cases h2 : op = 22
    · subst h2; simp [numF, rV, vC, vB, sNoC, sPlace, fV]
    · by_cases h3 : 3 ≤ op ∧ op ≤ 11
      · have : op = 3 ∨ op = 4 ∨ op = 5 ∨ op = 6 ∨ op = 7 ∨ op = 8 ∨ op = 9 ∨ op = 10 ∨ op = 11 := by omega
        rcases this with rfl | rfl | rfl | rfl | rfl | rfl | rfl | rfl | rfl <;> by_cases hc : c = -1 <;> simp [numF, rV, vC, vB, sNoC, sPlace, fV, hc]
      · by_cases h4 : op = 43
        · subst h4; by_cases hb : b = -1 <;> simp [numF, rV, vC, vB, sNoC, sPlace, fV, hb]
        · have e1 : sNoC op = false := by simp [sNoC]; omega
          have e2 : sPlace op = false := by simp [sPlace]; omega
          simp [numF, rV, vC, vB, h1, h2, h3, h4, e1, e2]

theorem may_right (x : InsD) (n : Int) (lib : Bool) : mayF x n lib = rightF x n lib := by
  unfold mayF rightF okF
  rw [okOp_rOp, okM_rM, regF_rA, regF_rB, regF_rC, numF_rV]
  cases rOp x lib <;> cases rM x <;> cases rA x <;> cases rB x <;> cases rC x <;> cases rV x n <;> rfl
end Go.Proofs.YtoncebfhkoabaaaDoor
