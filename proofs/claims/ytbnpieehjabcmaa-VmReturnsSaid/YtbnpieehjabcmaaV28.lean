/- Walk of VmReturns: true for any number. -/
import Derived.Test.YtbnpieehjabcmaaV27
import Derived.Test.YtbnpieehjabcmaaV21
import Derived.OwnWalk
namespace Go.Proofs.Ytbnpieehjabcmaa
open Go.RowKit

theorem tmod_low (v n : Int) (h : 1 ≤ n) (h1 : v.tmod n < 0) : v.tmod n + n = v % n ∧ 0 ≤ v % n ∧ v % n < n := by
  have a := Int.tmod_eq_emod (a := v) (b := n)
  have b := Int.emod_nonneg v (show n ≠ 0 by omega)
  have c := Int.emod_lt_of_pos v (show 0 < n by omega)
  split at a <;> omega
theorem tmod_high (v n : Int) (h : 1 ≤ n) (h1 : 0 ≤ v.tmod n) : v.tmod n = v % n := by
  have a := Int.tmod_eq_emod (a := v) (b := n)
  have b := Int.emod_nonneg v (show n ≠ 0 by omega)
  have c := Int.emod_lt_of_pos v (show 0 < n by omega)
  split at a <;> omega
theorem within_any (v n : Int) (_h1 : -9223372036854775808 ≤ v) (_h2 : v < 9223372036854775808) (h3 : 1 ≤ n) (h4 : n ≤ 1000000000000) (w : World) :
    Calls Try.prog 14 #[.int .i64 v, .int .i64 n] w fun e w' => e = .returned (.int .i64 (v % n)) ∧ w = w' := by
  go_enter Try.func14, Try.ntmps14
  go_wp2
  all_goals (go_ret; refine ⟨congrArg (fun b => Ending.returned (.int .i64 b)) ?_, rfl⟩)
  · rename_i h
    obtain ⟨a, b, c⟩ := tmod_low v n h3 h
    rw [a]; unfold wrap64; omega
  · rename_i h; exact tmod_high v n h3 h

theorem back_cell {w : World} {M : Nat → Prop} {b : Nat} {pc : Int} {r bk : List Int} (h : FrB M w b 0 pc r bk) : ∃ A c, w.cell? ⟨b, 33, none⟩ = some (.slice A bk.length c) := by
  obtain ⟨A, c, hF, _, _, _⟩ := h
  exact ⟨A, c, by simpa using hF.back⟩
theorem pc_cell {w : World} {M : Nat → Prop} {b : Nat} {pc : Int} {r bk : List Int} (h : FrB M w b 0 pc r bk) : w.cell? ⟨b, 0, none⟩ = some (.int .i64 pc) := by
  obtain ⟨A, c, hF, _, _, _⟩ := h
  exact hF.pc
theorem pc_fz {w : World} {M : Nat → Prop} {b : Nat} {pc : Int} {r bk : List Int} (h : FrB M w b 0 pc r bk) : w.frozen? ⟨b, 0, none⟩ = false := by
  obtain ⟨A, c, hF, _, _, _⟩ := h
  exact hF.fz0
theorem r5_cell {w : World} {M : Nat → Prop} {b : Nat} {pc : Int} {bk : List Int} (h : FrB M w b 0 pc r77 bk) : w.cell? ⟨b, 6, none⟩ = some (.int .u64 77) := by
  obtain ⟨A, c, hF, _, _, _⟩ := h
  exact hF.r 5 (by omega)

set_option maxHeartbeats 8000000 in
set_option maxRecDepth 100000 in
theorem vmReturns_walk (x : Int) (h1 : -9223372036854775808 ≤ x) (h2 : x < 9223372036854775808) (w : World) : Calls Try.prog 5 #[.int .i64 x] w fun e w' => e = .returned (.bool true) ∧ Ext w w' := by
  obtain ⟨i0, hi0, hz0, hz1, hz2⟩ := info_parts Try.insInfo
  have hb0 := Int.emod_nonneg x (show (11 : Int) ≠ 0 by omega)
  have hb1 := Int.emod_lt_of_pos x (show (0 : Int) < 11 by omega)
  obtain ⟨n, hn⟩ : ∃ n : Nat, x % 11 = (n : Int) := ⟨(x % 11).toNat, by omega⟩
  have hr2 : n ≤ 10 := by omega
  have hw := within_any x 11 h1 h2 (by omega) (by omega) w
  rw [hn] at hw
  have HW := Lib.hid hw
  clear hn hb0 hb1 hw
  go_enter Try.func5, Try.ntmps5
  go_wp2_with (first | (go_at_call 14; refine HW.out.mono ?_; rintro e w1 ⟨rfl, rfl⟩))
  go_loopw [4, 5] (fun v i wr => ∃ k : Nat, k ≤ n ∧ i = .int .i64 k ∧ wr.ownsRow w.heap.size 24 7 v k (insRow (jsrs k)) ∧ Ext w wr) (fun _ i _ => n - (intOf i).toNat)
  case atStart => exact ⟨0, Nat.zero_le _, rfl, World.ownsRow_nil _ _ _ _, Below.refl _ _⟩
  case round =>
    obtain ⟨k, hk, rfl, hO, hX⟩ := hrel
    have OW := Lib.hid hO
    have X := Lib.hid hX
    clear hO hX
    by_cases hlt : k < n
    · have hkl : (k : Int) < (n : Int) := by omega
      have hkc : IntKind.u64.wrap ((k : Int) + 1) = (k : Int) + 1 := IntWalk.u64_in _ (by omega)
      go_wp2_with (first
        | (at_builtin
           (
             refine wpList_append_any _ rfl (.tmp 22) (.tmp 27) 39 rfl w.heap.size 24 i0 _ 7 56 Try.underlying39 hi0 hz0 hz1 hz2 rfl (by omega) _ k (insRow (jsrs k)) rfl (OW.out.alloc _) _ (some ⟨wr.heap.size, 0, none⟩) 1 1 (insRow [⟨15, 0, 0, 0, (k : Int) + 1, 0, 0⟩]) rfl (reads_one _ (by simp) (by simp) (by simp) (by simp) (by simp) (by simp) (by simp) (by simp)) (insRow_one _) (by unfold maxLen; omega) (by omega) (by have := X.out.size; simp; omega) ?_
             intro v1 w1 hown1 hg1 hat1
             have OW1 := Lib.hid (show w1.ownsRow w.heap.size 24 7 v1 (k + 1) (insRow (jsrs (k + 1))) by rw [jsrs_succ, insRow_append]; exact hown1)
             have X1 := Lib.hid (show Ext w w1 from (X.out.alloc X.out.size _).grown hg1 (by have := X.out.size; simp; omega) (fun g hg => (OW.out.lt g hg).1))
             clear hown1 hg1 hat1)))
      go_roundw
      case rel => exact ⟨k + 1, by omega, by go_num, OW1.out, X1.out⟩
      case measure => simp [intOf]; omega
    · obtain rfl : k = n := by omega
      go_wp2_with (first
        | (at_builtin
           (
             refine wpList_append_any _ rfl (.tmp 29) (.tmp 31) 39 rfl w.heap.size 24 i0 _ 7 56 Try.underlying39 hi0 hz0 hz1 hz2 rfl (by omega) _ k (insRow (jsrs k)) rfl (OW.out.alloc _) _ (some ⟨wr.heap.size, 0, none⟩) 1 1 (insRow [⟨16, 0, 0, 0, 0, 0, 0⟩]) rfl (reads_one _ (by simp) (by simp) (by simp) (by simp) (by simp) (by simp) (by simp) (by simp)) (insRow_one _) (by unfold maxLen; omega) (by omega) (by have := X.out.size; simp; omega) ?_
             intro v1 w1 hown1 hg1 hat1
             obtain ⟨g, cap, rfl, hgb, hgl⟩ := hown1.form (Nat.succ_pos k)
             obtain ⟨g', hgg, hgb', hI1⟩ := own_ins (k + 1) (codeR_length k) (show w1.ownsRow w.heap.size 24 7 (.slice (some ⟨g, 0, none⟩) (k + 1) cap) (k + 1) (insRow (codeR k)) by unfold codeR; rw [insRow_append]; exact hown1) (Nat.succ_pos k)
             injection hgg with hgg
             injection hgg with hgg
             subst hgg
             have I1 := Lib.hid hI1
             have X1 := Lib.hid (show Ext w w1 from (X.out.alloc X.out.size _).grown hg1 (by have := X.out.size; simp; omega) (fun g hg => (OW.out.lt g hg).1))
             clear hown1 hg1 hat1 hI1 hgb hgb' OW X)))
      go_loopw [7] (fun i wr => ∃ q : Nat, q ≤ k ∧ q ≤ 8 ∧ i = .int .i64 q ∧ FrB (· = w1.heap.size) wr w1.heap.size 0 (q : Nat) r77 (bkR q) ∧ InsAt wr g 0 (codeR k) ∧ Ext w wr) (fun i _ => k - (intOf i).toNat)
      case atStart =>
        refine ⟨0, Nat.zero_le _, Nat.zero_le _, rfl, ?_, ?_, ?_⟩
        · exact frb_new (· = w1.heap.size) w1 0 r77 rfl
        · exact I1.out.ext (ext1 _ _)
        · exact X1.out.alloc X1.out.size _
      case round =>
        obtain ⟨q, hq, hq8, rfl, hF, hI, hX⟩ := hrel
        have F := Lib.hid hF
        have I := Lib.hid hI
        have X := Lib.hid hX
        clear hF hI hX
        by_cases hlt : q < k
        · have hkl : (q : Int) < (k : Int) := by omega
          by_cases h8 : q < 8
          · go_wp2_with fail
            refine (ret_in _ _ _ _ k q (by omega) hlt h8 F.out I.out).mono ?_
            rintro e w2 ⟨rfl, hF2, hU2⟩
            have p0 : w2.cell? ⟨w1.heap.size, 0, none⟩ = some (.int .i64 ((q : Int) + 1)) := pc_cell hF2
            obtain ⟨A2, c2, p33⟩ := back_cell hF2
            rw [bkR_length] at p33
            have F2 := Lib.hid hF2
            have I2 := Lib.hid (I.out.upto hU2 (by omega))
            have X2 := Lib.hid (show Ext w w2 from X.out.trans (hU2.below X.out.size (by rintro k rfl; exact X1.out.size)))
            clear hF2 hU2
            go_wp2_with fail
            go_roundw
            case rel => exact ⟨q + 1, by omega, by omega, by go_num, F2.out, I2.out, X2.out⟩
            case measure => simp [intOf]; omega
          · obtain rfl : q = 8 := by omega
            go_wp2_with fail
            refine (ret_full _ _ _ _ k 8 (by omega) hlt (by omega) (by omega) F.out I.out).mono ?_
            rintro e w2 ⟨rfl, hF2, hU2⟩
            have p0 := pc_cell hF2
            obtain ⟨A2, c2, p33⟩ := back_cell hF2
            rw [bkR_length] at p33
            have X2 := Lib.hid (show Ext w w2 from X.out.trans (hU2.below X.out.size (by rintro k rfl; exact X1.out.size)))
            clear hF2 hU2
            go_wp2_with (first | (go_at_call 12; refine (vawake _).mono ?_; rintro e w3 ⟨rfl, hx3⟩; have X4 := Lib.hid (X2.out.trans (hx3.mono X2.out.size)); clear hx3))
            go_ret
            exact ⟨rfl, X4.out⟩
        · obtain rfl : q = k := by omega
          go_wp2_with fail
          go_loopw [10] (fun i wv => ∃ z : Nat, z ≤ q ∧ i = .int .i64 z ∧ (∃ pc : Int, FrB (· = w1.heap.size) wv w1.heap.size 0 pc r77 (bkR z)) ∧ InsAt wv g 0 (codeR q) ∧ Ext w wv) (fun i _ => (intOf i).toNat)
          case atStart => exact ⟨q, Nat.le_refl _, rfl, ⟨_, F.out⟩, I.out, X.out⟩
          case round =>
            obtain ⟨z, hz, rfl, ⟨pc, hF⟩, hI, hX⟩ := hrel
            have p0 := pc_cell hF
            have z0 := pc_fz hF
            have F1 := Lib.hid (hF.setPc rfl (q : Nat))
            have I1 := Lib.hid (hI.upto (S := (· = w1.heap.size)) ((Upto.refl _ _).setB 0 (.int .i64 q)) (by omega))
            have X1' := Lib.hid (hX.setCell (p := ⟨w1.heap.size, 0, none⟩) X1.out.size (.int .i64 q))
            clear hF hI hX F I X
            by_cases hz1 : 0 < z
            · obtain ⟨y, rfl⟩ : ∃ y, z = y + 1 := ⟨z - 1, by omega⟩
              have hn1 : (0 : Int) < ((y + 1 : Nat) : Int) := by omega
              have hn2 : (((y + 1 : Nat) : Int) - 1) = (y : Int) := by omega
              go_wp2_with fail
              refine (ret_back _ _ _ _ q y (by omega) (by omega) F1.out I1.out).mono ?_
              rintro e w2 ⟨rfl, hF2, hU2⟩
              have p0 := pc_cell hF2
              obtain ⟨A2, c2, p33⟩ := back_cell hF2
              rw [bkR_length] at p33
              have F2 := Lib.hid hF2
              have I2 := Lib.hid (I1.out.upto hU2 (by omega))
              have X2 := Lib.hid (show Ext w w2 from X1'.out.trans (hU2.below X1'.out.size (by rintro k rfl; exact X1.out.size)))
              clear hF2 hU2
              go_wp2_with fail
              go_roundw
              case rel => exact ⟨y, by omega, by go_num, ⟨_, F2.out⟩, I2.out, X2.out⟩
              case measure => simp [intOf]
            · obtain rfl : z = 0 := by omega
              go_wp2_with fail
              refine (ret_home _ _ _ _ q (by omega) F1.out I1.out).mono ?_
              rintro e w2 ⟨rfl, hF2, hU2⟩
              have p0 := pc_cell hF2
              have p6 := r5_cell hF2
              have X2 := Lib.hid (show Ext w w2 from X1'.out.trans (hU2.below X1'.out.size (by rintro k rfl; exact X1.out.size)))
              clear hF2 hU2
              go_wp2_with (first | (go_at_call 12; refine (vawake _).mono ?_; rintro e w3 ⟨rfl, hx3⟩; have X4 := Lib.hid (X2.out.trans (hx3.mono X2.out.size)); clear hx3))
              go_ret
              exact ⟨rfl, X4.out⟩
end Go.Proofs.Ytbnpieehjabcmaa
