/- Walk of VmSums: true for any number. -/
import Derived.Test.YtbnpieehjabcmaaV18
namespace Go.Proofs.Ytbnpieehjabcmaa
open Go.RowKit

section
variable (M : Nat → Prop) (b o : Nat) (k : Int) (r bk : List Int) (x1 x2 x3 v m wh : Int) (W : World)
theorem jumpB_cond (op : Int) (hop : op = 13 ∨ op = 14) (hF : FrB M W b o k r bk) (hMb : M b) (h0 : 0 ≤ v) (h1 : v ≤ 1000000000000) (hp0 : 0 ≤ k) (hp1 : k ≤ 1000000000000) (hx0 : 0 ≤ x1) (hx1 : x1 < 32) :
    Calls Try.prog 22 #[.pointer (some ⟨b, o, none⟩), insA op x1 x2 x3 v m wh] W fun e w' => e = .returned (.int .i64 0) ∧ FrB M w' b o (if jumps op (r.getD x1.toNat 0) then v else k + 1) r bk ∧ Upto (· = b) W w' := by
  obtain ⟨A, cap, hFr, hB, hc, hM⟩ := hF
  refine (jump_cond b o k r A bk.length cap x1 x2 x3 v m wh W op hop hFr h0 h1 hp0 hp1 hx0 hx1).mono ?_
  rintro e w' ⟨rfl, h2, h3⟩
  exact ⟨rfl, ⟨A, cap, h2, hB.upto h3 (fun hn a e hs => hM hn a e (hs ▸ hMb)), hc, hM⟩, h3⟩
theorem jumpB_jmp (hF : FrB M W b o k r bk) (hMb : M b) (h0 : 0 ≤ v) (h1 : v ≤ 1000000000000) :
    Calls Try.prog 22 #[.pointer (some ⟨b, o, none⟩), insA 12 x1 x2 x3 v m wh] W fun e w' => e = .returned (.int .i64 0) ∧ FrB M w' b o v r bk ∧ Upto (· = b) W w' := by
  obtain ⟨A, cap, hFr, hB, hc, hM⟩ := hF
  refine (jump_jmp b o k r A bk.length cap x1 x2 x3 v m wh W hFr h0 h1).mono ?_
  rintro e w' ⟨rfl, h2, h3⟩
  exact ⟨rfl, ⟨A, cap, h2, hB.upto h3 (fun hn a e hs => hM hn a e (hs ▸ hMb)), hc, hM⟩, h3⟩
theorem jumpB_home (hF : FrB M W b o k r []) :
    Calls Try.prog 22 #[.pointer (some ⟨b, o, none⟩), insA 16 x1 x2 x3 v m wh] W fun e w' => e = .returned (.int .i64 2) ∧ FrB M w' b o k r [] ∧ Upto (· = b) W w' := by
  have hF' := hF
  obtain ⟨A, cap, hFr, hB, hc, hM⟩ := hF
  refine (jump_ret0 b o k r A cap x1 x2 x3 v m wh W hFr).mono ?_
  rintro e w' ⟨rfl, h2⟩
  exact ⟨rfl, hF'.ext h2, Upto.of_ext h2⟩
end

def regs2 (a b : Int) : List Int := [0, a, b, 0, 0, 0, 0, 0, 0, 0, 0, 0, 0, 0, 0, 0, 0, 0, 0, 0, 0, 0, 0, 0, 0, 0, 0, 0, 0, 0, 0, 0]
def codeSum (n : Int) : List InsD := [⟨1, 1, 0, 0, n, 0, 0⟩, ⟨3, 2, 2, 1, 0, 0, 0⟩, ⟨4, 1, 1, -1, 1, 0, 0⟩, ⟨14, 1, 0, 0, 1, 0, 0⟩, ⟨16, 0, 0, 0, 0, 0, 0⟩]
def SS (n : Int) : Nat → Int
  | 0 => 0
  | j + 1 => SS n j + (n - j)
theorem SS_eq (n : Int) (j : Nat) : 2 * SS n j = 2 * (j * n) - j * j + j := by
  induction j with
  | zero => simp [SS]
  | succ j ih =>
    have e : 2 * SS n (j + 1) = 2 * SS n j + 2 * (n - j) := by
      show 2 * (SS n j + (n - (j : Int))) = _
      omega
    rw [e, ih]
    push_cast
    simp only [Int.add_mul, Int.mul_add, Int.one_mul, Int.mul_one]
    omega
theorem SS_bd (n : Nat) (hn : n ≤ 50) (j : Nat) (hj : j ≤ n) : 0 ≤ SS n j ∧ SS n j ≤ 50 * j := by
  induction j with
  | zero => exact ⟨by simp [SS], by simp [SS]⟩
  | succ j ih => have := ih (by omega); unfold SS; omega
def pcS (n i : Nat) : Nat := if i = 0 then 0 else if (i - 1) % 3 = 0 then (if (i - 1) / 3 < n then 1 else 4) else 1 + (i - 1) % 3
def aS (n i : Nat) : Int := if i = 0 then 0 else (n : Int) - ((i : Nat) / 3 : Nat)
def bS (n i : Nat) : Int := if i = 0 then 0 else SS n ((i + 1) / 3)

section
variable (fb lb : Nat) (mv : Value) (W : World)
set_option maxHeartbeats 1000000 in
theorem sum_step (n i : Nat) (hn : n ≤ 50) (hn1 : 1 ≤ n) (hi : i < 1 + 3 * n) (hF : FrB (· = fb) W fb 0 (pcS n i : Nat) (regs2 (aS n i) (bS n i)) []) (hI : InsAt W lb 0 (codeSum n)) :
    Calls Try.prog 15 #[.pointer (some ⟨fb, 0, none⟩), .slice (some ⟨lb, 0, none⟩) 5 5, mv] W (StepPost (· = fb) W fb 0 0 (pcS n (i + 1) : Nat) (regs2 (aS n (i + 1)) (bS n (i + 1))) []) := by
  by_cases h0 : i = 0
  · subst h0
    have h := step_reckon (· = fb) fb 0 lb 0 5 (codeSum n) (regs2 (aS n 0) (bS n 0)) [] mv W 0 1 1 0 0 n 0 0 hF hI (by simp [codeSum]) (by simp [codeSum]) rfl (by rfl) (by omega) (by omega) (by omega) rfl
    have e1 : (regs2 (aS n 0) (bS n 0)).set (1 : Int).toNat (reckonF 1 (n : Int) (readF (regs2 (aS n 0) (bS n 0)) 0) (valueF (regs2 (aS n 0) (bS n 0)) ⟨1, 1, 0, 0, n, 0, 0⟩)) = regs2 (aS n 1) (bS n 1) := by
      simp [aS, bS, SS, regs2, reckonF]
    have ep : pcS n (0 + 1) = 1 := by unfold pcS; simp; omega
    rw [e1] at h
    rw [ep]
    exact h
  · obtain ⟨q, rfl⟩ : ∃ q, i = q + 1 := ⟨i - 1, by omega⟩
    obtain ⟨j, hj⟩ : ∃ j, q = 3 * j ∨ q = 3 * j + 1 ∨ q = 3 * j + 2 := ⟨q / 3, by omega⟩
    have hjn : j < n := by omega
    have hb := SS_bd n hn j (by omega)
    have hb2 := SS_bd n hn (j + 1) (by omega)
    have hs : SS n (j + 1) = SS n j + ((n : Int) - j) := rfl
    rcases hj with rfl | rfl | rfl
    · have e0 : pcS n (3 * j + 1) = 1 := by unfold pcS; rw [if_neg (by omega), if_pos (by omega), if_pos (by omega)]
      have e1 : aS n (3 * j + 1) = n - j := by unfold aS; rw [if_neg (by omega), show (3 * j + 1) / 3 = j by omega]
      have e2 : bS n (3 * j + 1) = SS n j := by unfold bS; rw [if_neg (by omega), show (3 * j + 1 + 1) / 3 = j by omega]
      have f0 : pcS n (3 * j + 1 + 1) = 2 := by unfold pcS; rw [if_neg (by omega), if_neg (by omega)]; omega
      have f1 : aS n (3 * j + 1 + 1) = n - j := by unfold aS; rw [if_neg (by omega), show (3 * j + 1 + 1) / 3 = j by omega]
      have f2 : bS n (3 * j + 1 + 1) = SS n (j + 1) := by unfold bS; rw [if_neg (by omega), show (3 * j + 1 + 1 + 1) / 3 = j + 1 by omega]
      rw [e0, e1, e2] at hF
      rw [f0, f1, f2]
      have h := step_reckon (· = fb) fb 0 lb 0 5 (codeSum n) (regs2 (n - j) (SS n j)) [] mv W 1 3 2 2 1 0 0 0 hF hI (by simp [codeSum]) (by simp [codeSum]) rfl (by rfl) (by omega) (by omega) (by omega) rfl
      have e : (regs2 (n - j) (SS n j)).set (2 : Int).toNat (reckonF 3 0 (readF (regs2 (n - j) (SS n j)) 2) (valueF (regs2 (n - j) (SS n j)) ⟨3, 2, 2, 1, 0, 0, 0⟩)) = regs2 (n - j) (SS n (j + 1)) := by
        have ew : IntKind.u64.wrap (SS n j + ((n : Int) - j)) = SS n j + ((n : Int) - j) := IntWalk.u64_in _ (by omega)
        show (regs2 (n - j) (SS n j)).set 2 (IntKind.u64.wrap (SS n j + ((n : Int) - j))) = _
        rw [ew, hs]
        rfl
      rw [e] at h
      exact h
    · have e0 : pcS n (3 * j + 1 + 1) = 2 := by unfold pcS; rw [if_neg (by omega), if_neg (by omega)]; omega
      have e1 : aS n (3 * j + 1 + 1) = n - j := by unfold aS; rw [if_neg (by omega), show (3 * j + 1 + 1) / 3 = j by omega]
      have e2 : bS n (3 * j + 1 + 1) = SS n (j + 1) := by unfold bS; rw [if_neg (by omega), show (3 * j + 1 + 1 + 1) / 3 = j + 1 by omega]
      have f0 : pcS n (3 * j + 1 + 1 + 1) = 3 := by unfold pcS; rw [if_neg (by omega), if_neg (by omega)]; omega
      have f1 : aS n (3 * j + 1 + 1 + 1) = n - (j + 1 : Nat) := by unfold aS; rw [if_neg (by omega), show (3 * j + 1 + 1 + 1) / 3 = j + 1 by omega]
      have f2 : bS n (3 * j + 1 + 1 + 1) = SS n (j + 1) := by unfold bS; rw [if_neg (by omega), show (3 * j + 1 + 1 + 1 + 1) / 3 = j + 1 by omega]
      rw [e0, e1, e2] at hF
      rw [f0, f1, f2]
      have h := step_reckon (· = fb) fb 0 lb 0 5 (codeSum n) (regs2 (n - j) (SS n (j + 1))) [] mv W 2 4 1 1 (-1) 1 0 0 hF hI (by simp [codeSum]) (by simp [codeSum]) rfl (by rfl) (by omega) (by omega) (by omega) rfl
      have e : (regs2 (n - j) (SS n (j + 1))).set (1 : Int).toNat (reckonF 4 1 (readF (regs2 (n - j) (SS n (j + 1))) 1) (valueF (regs2 (n - j) (SS n (j + 1))) ⟨4, 1, 1, -1, 1, 0, 0⟩)) = regs2 (n - (j + 1 : Nat)) (SS n (j + 1)) := by
        have ew : IntKind.u64.wrap (((n : Int) - j) - 1) = (n : Int) - (j + 1 : Nat) := by rw [IntWalk.u64_in _ (by omega)]; omega
        show (regs2 (n - j) (SS n (j + 1))).set 1 (IntKind.u64.wrap (((n : Int) - j) - 1)) = _
        rw [ew]
        rfl
      rw [e] at h
      exact h
    · have e0 : pcS n (3 * j + 2 + 1) = 3 := by unfold pcS; rw [if_neg (by omega), if_neg (by omega)]; omega
      have e1 : aS n (3 * j + 2 + 1) = n - (j + 1 : Nat) := by unfold aS; rw [if_neg (by omega), show (3 * j + 2 + 1) / 3 = j + 1 by omega]
      have e2 : bS n (3 * j + 2 + 1) = SS n (j + 1) := by unfold bS; rw [if_neg (by omega), show (3 * j + 2 + 1 + 1) / 3 = j + 1 by omega]
      have f0 : pcS n (3 * j + 2 + 1 + 1) = if j + 1 < n then 1 else 4 := by unfold pcS; rw [if_neg (by omega), if_pos (by omega), show (3 * j + 2 + 1 + 1 - 1) / 3 = j + 1 by omega]
      have f1 : aS n (3 * j + 2 + 1 + 1) = n - (j + 1 : Nat) := by unfold aS; rw [if_neg (by omega), show (3 * j + 2 + 1 + 1) / 3 = j + 1 by omega]
      have f2 : bS n (3 * j + 2 + 1 + 1) = SS n (j + 1) := by unfold bS; rw [if_neg (by omega), show (3 * j + 2 + 1 + 1 + 1) / 3 = j + 1 by omega]
      rw [e0, e1, e2] at hF
      rw [f0, f1, f2]
      refine step_jump (· = fb) fb 0 lb 0 5 (codeSum n) _ [] mv W 3 14 1 0 0 1 0 0 hF hI (by simp [codeSum]) (by simp [codeSum]) rfl (by rfl) (by omega) 0 _ _ [] (fun W' hx => ?_)
      have h := jumpB_cond (· = fb) fb 0 (3 : Nat) (regs2 (n - (j + 1 : Nat)) (SS n (j + 1))) [] 1 0 0 1 0 0 W' 14 (by omega) (hF.ext hx) rfl (by omega) (by omega) (by omega) (by omega) (by omega) (by omega)
      have e : (if jumps 14 ((regs2 (n - (j + 1 : Nat)) (SS n (j + 1))).getD (1 : Int).toNat 0) then (1 : Int) else ((3 : Nat) : Int) + 1) = ((if j + 1 < n then 1 else 4 : Nat) : Int) := by
        show (if ((((n : Int) - (j + 1 : Nat)) == 0) == (14 == 13)) = true then (1 : Int) else ((3 : Nat) : Int) + 1) = _
        by_cases hz : j + 1 < n
        · have hne : (((n : Int) - (j + 1 : Nat)) == 0) = false := beq_eq_false_iff_ne.2 (by omega)
          rw [hne, if_pos (by decide), if_pos hz]; rfl
        · have hne : (((n : Int) - (j + 1 : Nat)) == 0) = true := beq_iff_eq.2 (by omega)
          rw [hne, if_neg (by decide), if_neg hz]; rfl
      rw [e] at h
      exact h
end
end Go.Proofs.Ytbnpieehjabcmaa
