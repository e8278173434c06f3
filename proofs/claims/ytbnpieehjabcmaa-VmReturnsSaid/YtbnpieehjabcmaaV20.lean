/- Walk of VmSums: true for any number. -/
import Derived.Test.YtbnpieehjabcmaaV19
namespace Go.Proofs.Ytbnpieehjabcmaa
open Go.RowKit

theorem ins_five (W : World) (n : Int) : InsAt (W.alloc (.cells #[.int .i64 1, .int .i64 1, .int .i64 0, .int .i64 0, .int .u64 n, .int .i64 0, .int .i64 0, .int .i64 3, .int .i64 2, .int .i64 2, .int .i64 1, .int .u64 0, .int .i64 0, .int .i64 0, .int .i64 4, .int .i64 1, .int .i64 1, .int .i64 (-1), .int .u64 1, .int .i64 0, .int .i64 0, .int .i64 14, .int .i64 1, .int .i64 0, .int .i64 0, .int .u64 1, .int .i64 0, .int .i64 0, .int .i64 16, .int .i64 0, .int .i64 0, .int .i64 0, .int .u64 0, .int .i64 0, .int .i64 0] 24)) W.heap.size 0 (codeSum n) := by
  intro i hi
  have e : i = 0 ∨ i = 1 ∨ i = 2 ∨ i = 3 ∨ i = 4 := by simp [codeSum] at hi; omega
  rcases e with rfl | rfl | rfl | rfl | rfl <;> simp [codeSum]

theorem frb_new2 (M : Nat → Prop) (w : World) (O : Obj) (pc : Int) (r : List Int) (h : r.length = 32) : FrB M ((w.alloc O).alloc (.cells (frCells pc r) 35)) (w.heap.size + 1) 0 pc r [] := by
  have h := frb_new M (w.alloc O) pc r h
  rw [show (w.alloc O).heap.size = w.heap.size + 1 by simp] at h
  exact h

set_option maxHeartbeats 8000000 in
set_option maxRecDepth 100000 in
theorem vmSums_walk (n0 : Int) (h0 : 0 ≤ n0) (h1 : n0 < 18446744073709551616) (w : World) : Calls Try.prog 6 #[.int .u64 n0] w fun e w' => e = .returned (.bool true) ∧ Ext w w' := by
  have hb0 := Int.emod_nonneg n0 (show (50 : Int) ≠ 0 by omega)
  have hb1 := Int.emod_lt_of_pos n0 (show (0 : Int) < 50 by omega)
  obtain ⟨n, hn⟩ : ∃ n : Nat, 1 + n0 % 50 = (n : Int) := ⟨(1 + n0 % 50).toNat, by omega⟩
  have hr1 : 1 ≤ n := by omega
  have hr2 : n ≤ 50 := by omega
  have HN := Lib.hid hn
  clear hn hb0 hb1
  go_enter Try.func6, Try.ntmps6
  go_upto_region 2 with fail
  rw [HN.out]
  go_wp2_with fail
  go_loopw [5] (fun i wr => ∃ q : Nat, q ≤ 1 + 3 * n ∧ i = .int .u64 q ∧ FrB (· = w.heap.size + 1) wr (w.heap.size + 1) 0 (pcS n q : Nat) (regs2 (aS n q) (bS n q)) [] ∧ InsAt wr w.heap.size 0 (codeSum n) ∧ Ext w wr) (fun i _ => 1 + 3 * n - (intOf i).toNat)
  case atStart =>
    refine ⟨0, Nat.zero_le _, rfl, ?_, (ins_five w n).ext (ext1 _ _), (ext1 w _).alloc (by simp) _⟩
    exact frb_new2 (· = w.heap.size + 1) w _ 0 (regs2 0 0) rfl
  case round =>
    obtain ⟨q, hq, rfl, hF, hI, hX⟩ := hrel
    have F := Lib.hid hF
    have I := Lib.hid hI
    have X := Lib.hid hX
    clear hF hI hX
    by_cases hlt : q < 1 + 3 * n
    · have q1 : (q : Int) < 1 + 3 * (n : Int) := by omega
      go_wp2_with fail
      refine (sum_step _ _ _ _ n q hr2 hr1 hlt F.out I.out).mono ?_
      rintro e w2 ⟨rfl, hF2, hU2⟩
      have F2 := Lib.hid hF2
      have I2 := Lib.hid (I.out.upto hU2 (by omega))
      have X2 := Lib.hid (show Ext w w2 from X.out.trans (hU2.below X.out.size (by rintro k rfl; omega)))
      clear hF2 hU2
      go_wp2_with fail
      go_roundw
      case rel => exact ⟨q + 1, by omega, by go_num, F2.out, I2.out, X2.out⟩
      case measure => simp [intOf]; omega
    · have hqn : q = 1 + 3 * n := by omega
      have q1 : ¬ (q : Int) < 1 + 3 * (n : Int) := by omega
      have e0 : pcS n q = 4 := by rw [hqn]; unfold pcS; rw [if_neg (by omega), if_pos (by omega), if_neg (by omega)]
      have e1 : aS n q = 0 := by rw [hqn]; unfold aS; rw [if_neg (by omega), show (1 + 3 * n) / 3 = n by omega]; omega
      have e2 : bS n q = SS n n := by rw [hqn]; unfold bS; rw [if_neg (by omega), show (1 + 3 * n + 1) / 3 = n by omega]
      have hF2 := F.out
      rw [e0, e1, e2] at hF2
      have F2 := Lib.hid hF2
      have hss := SS_eq n n
      have HS := Lib.hid hss
      have hsb := SS_bd n hr2 n (Nat.le_refl n)
      clear e0 e1 e2 hF2 F hqn hss
      go_wp2_with fail
      refine (step_jump (· = w.heap.size + 1) (w.heap.size + 1) 0 w.heap.size 0 5 (codeSum n) (regs2 0 (SS n n)) [] _ _ 4 16 0 0 0 0 0 0 F2.out I.out (by simp [codeSum]) (by simp [codeSum]) rfl (by rfl) (by omega) 2 4 _ [] (fun W' hx => jumpB_home _ _ _ _ _ _ _ _ _ _ _ _ (F2.out.ext hx))).mono ?_
      rintro e w2 ⟨rfl, hF3, hU3⟩
      obtain ⟨A3, cap3, hF3', _, _, _⟩ := hF3
      have p1 : w2.cell? ⟨w.heap.size + 1, 2, none⟩ = some (.int .u64 0) := hF3'.r 1 (by omega)
      have p2 : w2.cell? ⟨w.heap.size + 1, 3, none⟩ = some (.int .u64 (SS n n)) := hF3'.r 2 (by omega)
      have X3 := Lib.hid (show Ext w w2 from X.out.trans (hU3.below X.out.size (by rintro k rfl; omega)))
      clear hF3' hU3
      have hp : (n : Int) * ((n : Int) + 1) = 2 * SS n n := by
        have h := HS.out
        rw [Int.mul_add, Int.mul_one]
        omega
      have hfin : IntKind.u64.wrap ((IntKind.u64.wrap ((n : Int) * ((n : Int) + 1))).tdiv 2) = SS n n := by
        rw [hp, IntWalk.u64_in (2 * SS n n) (by omega), Int.tdiv_eq_ediv_of_nonneg (by omega), Int.mul_ediv_cancel_left (SS n n) (by omega), IntWalk.u64_in (SS n n) (by omega)]
      generalize SS n n = z at p2 hfin
      clear hp hsb HS F2
      go_upto_region 11 with fail
      go_wp2_with (first | (go_at_call 12; refine (vawake _).mono ?_; rintro e w3 ⟨rfl, hx3⟩; have X4 := Lib.hid (X3.out.trans (hx3.mono X3.out.size)); clear hx3))
      go_ret
      exact ⟨rfl, X4.out⟩
end Go.Proofs.Ytbnpieehjabcmaa
