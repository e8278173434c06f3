/- Walks of CodeSides, CodeEach, CodeUnused: true for any input, wherever errors.errorType holds what start-up lays. -/
import Derived.Test.YtcbfaobepmhidaaDoorC6
import Derived.Test.YtcbfaobepmhidaaDoorA4
import Derived.Deep.RegionWith
namespace Go.Proofs.YtcbfaobepmhidaaDoor
open Go.RowKit Go.Extern.Stop Go.Stop Go.Extern

theorem sides_1 (x : InsD) (n : Int) (h : mayF x n false = true) : mayF x n true = true ∧ x.m = 0 ∧ x.op ≤ 22 ∨ x.op = 22 := by
  simp only [mayF, okOp, Bool.and_eq_true, Bool.not_eq_true', Bool.and_eq_false_iff, Bool.or_eq_false_iff, decide_eq_true_eq, decide_eq_false_iff_not] at h ⊢
  by_cases h22 : x.op = 22
  · exact .inr h22
  · left
    simp_all
theorem sides_2 (x : InsD) (n : Int) (h : mayF x n true = true) : mayF x n false = true ∨ x.m ≠ 0 ∨ 22 < x.op := by
  by_cases hm : x.m = 0
  · by_cases ho : 22 < x.op
    · exact .inr (.inr ho)
    · left
      simp only [mayF, okOp, Bool.and_eq_true, Bool.not_eq_true', Bool.and_eq_false_iff, Bool.or_eq_false_iff, decide_eq_true_eq, decide_eq_false_iff_not] at h ⊢
      simp_all
  · exact .inr (.inl hm)
theorem sides_3 (x : InsD) (n : Int) (h : x.op = 22) : mayF x n true = false := by
  simp [mayF, okOp, h]

set_option maxHeartbeats 2000000 in
theorem codeSides_walk (x : InsD) (n0 : Int) (hn1 : -9223372036854775808 ≤ n0) (hn2 : n0 < 9223372036854775808) (w : World) (hg : Gl w) :
    Calls Tryd.prog 7 #[insV x, .int .i64 n0] w fun e w' => e = .returned (.bool true) ∧ Ext w w' := by
  have G := Lib.hid hg
  clear hg
  have hb0 := Int.emod_nonneg n0 (show (20 : Int) ≠ 0 by omega)
  have hb1 := Int.emod_lt_of_pos n0 (show (0 : Int) < 20 by omega)
  obtain ⟨n, hn⟩ : ∃ n : Nat, 1 + n0 % 20 = (n : Int) := ⟨(1 + n0 % 20).toNat, by omega⟩
  have hr1 : 1 ≤ n := by omega
  have hr2 : n ≤ 20 := by omega
  have HN := Lib.hid hn
  clear hn hb0 hb1
  go_enter Tryd.func7, Tryd.ntmps7
  go_wp2_with (first | (go_at_call 21; refine (within_any _ _ hn1 hn2 (by omega) (by omega) _).mono ?_; rintro e w' ⟨rfl, rfl⟩))
  rw [HN.out]
  have hx0 : Ext w (w.alloc (.cells #[.int .i64 x.op, .int .i64 x.a, .int .i64 x.b, .int .i64 x.c, .int .u64 x.v, .int .i64 x.m, .int .i64 x.wh] 42)) := ext1 _ _
  have hz0 : w.heap.size < (w.alloc (.cells #[.int .i64 x.op, .int .i64 x.a, .int .i64 x.b, .int .i64 x.c, .int .u64 x.v, .int .i64 x.m, .int .i64 x.wh] 42)).heap.size := by simp
  generalize hW0 : w.alloc (.cells #[.int .i64 x.op, .int .i64 x.a, .int .i64 x.b, .int .i64 x.c, .int .u64 x.v, .int .i64 x.m, .int .i64 x.wh] 42) = W0 at hx0 hz0 ⊢
  have b0 : W0.cell? ⟨w.heap.size, 0, none⟩ = some (.int .i64 x.op) := by rw [← hW0]; simp
  have b1 : W0.cell? ⟨w.heap.size, 1, none⟩ = some (.int .i64 x.a) := by rw [← hW0]; simp
  have b2 : W0.cell? ⟨w.heap.size, 2, none⟩ = some (.int .i64 x.b) := by rw [← hW0]; simp
  have b3 : W0.cell? ⟨w.heap.size, 3, none⟩ = some (.int .i64 x.c) := by rw [← hW0]; simp
  have b4 : W0.cell? ⟨w.heap.size, 4, none⟩ = some (.int .u64 x.v) := by rw [← hW0]; simp
  have b5 : W0.cell? ⟨w.heap.size, 5, none⟩ = some (.int .i64 x.m) := by rw [← hW0]; simp
  have b6 : W0.cell? ⟨w.heap.size, 6, none⟩ = some (.int .i64 x.wh) := by rw [← hW0]; simp
  have X0 := Lib.hid hx0
  clear hW0 hx0
  go_region_with (first
    | (go_at_call_of 19 (Value.bool false); refine (alone_any x n false hr1 (by omega) _).mono ?_; rintro e w1 ⟨rfl, hx1⟩; have e1 : Ext W0 w1 := Below.trans (Below.drew (Below.refl _ _)) hx1; have p0 : w1.cell? ⟨w.heap.size, 0, none⟩ = some (.int .i64 x.op) := (e1.cell (p := ⟨w.heap.size, 0, none⟩) hz0).trans b0; have p1 : w1.cell? ⟨w.heap.size, 1, none⟩ = some (.int .i64 x.a) := (e1.cell (p := ⟨w.heap.size, 1, none⟩) hz0).trans b1; have p2 : w1.cell? ⟨w.heap.size, 2, none⟩ = some (.int .i64 x.b) := (e1.cell (p := ⟨w.heap.size, 2, none⟩) hz0).trans b2; have p3 : w1.cell? ⟨w.heap.size, 3, none⟩ = some (.int .i64 x.c) := (e1.cell (p := ⟨w.heap.size, 3, none⟩) hz0).trans b3; have p4 : w1.cell? ⟨w.heap.size, 4, none⟩ = some (.int .u64 x.v) := (e1.cell (p := ⟨w.heap.size, 4, none⟩) hz0).trans b4; have p5 : w1.cell? ⟨w.heap.size, 5, none⟩ = some (.int .i64 x.m) := (e1.cell (p := ⟨w.heap.size, 5, none⟩) hz0).trans b5; have p6 : w1.cell? ⟨w.heap.size, 6, none⟩ = some (.int .i64 x.wh) := (e1.cell (p := ⟨w.heap.size, 6, none⟩) hz0).trans b6; have z1 : w.heap.size < w1.heap.size := Nat.lt_of_lt_of_le hz0 e1.size; have X1 := Lib.hid e1; clear hx1 e1)
    | (go_at_call_of 19 (Value.bool true); refine (alone_any x n true hr1 (by omega) _).mono ?_; rintro e w2 ⟨rfl, hx2⟩; have e2 : Ext W0 w2 := X1.out.trans (hx2.mono X1.out.size); have q0 : w2.cell? ⟨w.heap.size, 0, none⟩ = some (.int .i64 x.op) := (e2.cell (p := ⟨w.heap.size, 0, none⟩) hz0).trans b0; have q1 : w2.cell? ⟨w.heap.size, 1, none⟩ = some (.int .i64 x.a) := (e2.cell (p := ⟨w.heap.size, 1, none⟩) hz0).trans b1; have q2 : w2.cell? ⟨w.heap.size, 2, none⟩ = some (.int .i64 x.b) := (e2.cell (p := ⟨w.heap.size, 2, none⟩) hz0).trans b2; have q3 : w2.cell? ⟨w.heap.size, 3, none⟩ = some (.int .i64 x.c) := (e2.cell (p := ⟨w.heap.size, 3, none⟩) hz0).trans b3; have q4 : w2.cell? ⟨w.heap.size, 4, none⟩ = some (.int .u64 x.v) := (e2.cell (p := ⟨w.heap.size, 4, none⟩) hz0).trans b4; have q5 : w2.cell? ⟨w.heap.size, 5, none⟩ = some (.int .i64 x.m) := (e2.cell (p := ⟨w.heap.size, 5, none⟩) hz0).trans b5; have q6 : w2.cell? ⟨w.heap.size, 6, none⟩ = some (.int .i64 x.wh) := (e2.cell (p := ⟨w.heap.size, 6, none⟩) hz0).trans b6; have z2 : w.heap.size < w2.heap.size := Nat.lt_of_lt_of_le hz0 e2.size; have X2 := Lib.hid e2; clear hx2 e2))
  all_goals
    have XW := Lib.hid (X0.out.trans (X2.out.mono X0.out.size))
    by_cases h22 : x.op = 22
    · have k1 := sides_3 x n h22
      have k2 : (x.op == 22) = true := beq_iff_eq.2 h22
      clear h22
      go_wp2_with (first | (go_at_call 16; refine (awake_any _ (Gl.ext G.out XW.out)).mono ?_; rintro e w3 ⟨rfl, hx3⟩; have X3 := Lib.hid hx3; clear hx3))
      go_ret
      exact ⟨rfl, XW.out.trans (X3.out.mono XW.out.size)⟩
    · have k2 : (x.op == 22) = false := beq_eq_false_iff_ne.2 h22
      by_cases hc : mayF x n false = true
      · rcases sides_1 x n hc with ⟨hl, hm, ho⟩ | h
        · have k3 : (x.m != 0) = false := by simp [hm]
          have k4 : ¬ 22 < x.op := by omega
          clear hm h22 ho
          go_wp2_with (first | (go_at_call 16; refine (awake_any _ (Gl.ext G.out XW.out)).mono ?_; rintro e w3 ⟨rfl, hx3⟩; have X3 := Lib.hid hx3; clear hx3))
          go_ret
          exact ⟨rfl, XW.out.trans (X3.out.mono XW.out.size)⟩
        · exact absurd h h22
      · have hc' : mayF x n false = false := by simpa using hc
        by_cases hl : mayF x n true = true
        · rcases sides_2 x n hl with h | hm | ho
          · exact absurd h hc
          · have k3 : (x.m != 0) = true := by simpa using hm
            clear hc h22 hm
            go_wp2_with (first | (go_at_call 16; refine (awake_any _ (Gl.ext G.out XW.out)).mono ?_; rintro e w3 ⟨rfl, hx3⟩; have X3 := Lib.hid hx3; clear hx3))
            go_ret
            exact ⟨rfl, XW.out.trans (X3.out.mono XW.out.size)⟩
          · clear hc h22
            by_cases hm : x.m = 0
            · have k3 : (x.m != 0) = false := by simp [hm]
              clear hm
              go_wp2_with (first | (go_at_call 16; refine (awake_any _ (Gl.ext G.out XW.out)).mono ?_; rintro e w3 ⟨rfl, hx3⟩; have X3 := Lib.hid hx3; clear hx3))
              go_ret
              exact ⟨rfl, XW.out.trans (X3.out.mono XW.out.size)⟩
            · have k3 : (x.m != 0) = true := by simpa using hm
              clear hm
              go_wp2_with (first | (go_at_call 16; refine (awake_any _ (Gl.ext G.out XW.out)).mono ?_; rintro e w3 ⟨rfl, hx3⟩; have X3 := Lib.hid hx3; clear hx3))
              go_ret
              exact ⟨rfl, XW.out.trans (X3.out.mono XW.out.size)⟩
        · have hl' : mayF x n true = false := by simpa using hl
          clear hc hl h22
          go_wp2_with (first | (go_at_call 16; refine (awake_any _ (Gl.ext G.out XW.out)).mono ?_; rintro e w3 ⟨rfl, hx3⟩; have X3 := Lib.hid hx3; clear hx3))
          go_ret
          exact ⟨rfl, XW.out.trans (X3.out.mono XW.out.size)⟩
end Go.Proofs.YtcbfaobepmhidaaDoor
