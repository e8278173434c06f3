/- Walks of mem.row and mem.Map where the cells are not there yet. -/
import Derived.Test.YtoncebfhkoabaaaDoorV10
namespace Go.Proofs.YtoncebfhkoabaaaDoor
open Go.RowKit

def fillL (l : List Int) (a : Nat) : Nat → Int → List Int
  | 0, _ => l
  | k + 1, v => (fillL l a k v).set (a + k) v
theorem fillL_length (l : List Int) (a k : Nat) (v : Int) : (fillL l a k v).length = l.length := by
  induction k with
  | zero => rfl
  | succ k ih => simp [fillL, ih]
theorem MemAt.setW {w : World} {m c d : Nat} {cs ws : List Int} {th ct : Int} (h : MemAt w m c d cs ws th ct) (k : Nat) (hk : k < cs.length) (v : Int) (h0 : 0 ≤ v) (h1 : v < 256) : MemAt (w.setCell ⟨d, k, none⟩ (.int .u8 v)) m c d cs (ws.set k v) th ct := by
  have hl := h.len
  refine ⟨by simpa using hl, h.big, (World.cell?_setCell_far _ _ _ _ h.md.symm).trans h.pc, (World.cell?_setCell_far _ _ _ _ h.md.symm).trans h.pd, (World.cell?_setCell_far _ _ _ _ h.md.symm).trans h.hth, (World.cell?_setCell_far _ _ _ _ h.md.symm).trans h.hct, fun i hi => (World.cell?_setCell_far _ _ _ _ h.cd.symm).trans (h.hcs i hi), fun i hi => ?_,
    fun i hi => by rw [World.frozen?_setCell]; exact h.fm i hi, fun i hi => by rw [World.frozen?_setCell]; exact h.fc i (by omega), fun i hi => by rw [World.frozen?_setCell]; exact h.fd i (by omega), h.mc, h.md, h.cd, by simpa using h.lm, by simpa using h.lc, by simpa using h.ld, fun i hi => ?_⟩
  · rw [getD_set _ _ _ _ (by omega)]
    by_cases ei : i = k
    · subst ei; rw [if_pos rfl]; exact World.cell?_setCell_same _ _ _ (h.hws i (by omega))
    · rw [if_neg ei]; exact (World.cell?_setCell_other _ _ _ _ (by simp <;> omega)).trans (h.hws i (by omega))
  · rw [getD_set _ _ _ _ (by omega)]
    by_cases ei : i = k
    · rw [if_pos ei]; exact ⟨h0, h1⟩
    · rw [if_neg ei]; exact h.wd i hi
theorem MemAt.setTh {w : World} {m c d : Nat} {cs ws : List Int} {th ct : Int} (h : MemAt w m c d cs ws th ct) (v : Int) : MemAt (w.setCell ⟨m, 2, none⟩ (.int .i64 v)) m c d cs ws v ct :=
  ⟨h.len, h.big, (World.cell?_setCell_other _ _ _ _ (by simp)).trans h.pc, (World.cell?_setCell_other _ _ _ _ (by simp)).trans h.pd, World.cell?_setCell_same _ _ _ h.hth, (World.cell?_setCell_other _ _ _ _ (by simp)).trans h.hct,
   fun i hi => (World.cell?_setCell_far _ _ _ _ h.mc).trans (h.hcs i hi), fun i hi => (World.cell?_setCell_far _ _ _ _ h.md).trans (h.hws i hi),
   fun i hi => by rw [World.frozen?_setCell]; exact h.fm i hi, fun i hi => by rw [World.frozen?_setCell]; exact h.fc i hi, fun i hi => by rw [World.frozen?_setCell]; exact h.fd i hi,
   h.mc, h.md, h.cd, by simpa using h.lm, by simpa using h.lc, by simpa using h.ld, h.wd⟩

section
variable (m c d : Nat) (cs ws : List Int) (th ct : Int) (w : World)
set_option maxHeartbeats 1000000 in
theorem row_free (a n : Nat) (hM : MemAt w m c d cs ws th ct) (hn : a + n ≤ cs.length) (hz : ∀ i, a ≤ i → i < a + n → ws.getD i 0 = 0) :
    Calls Tryd.prog 41 #[.pointer (some ⟨m, 0, none⟩), .int .i64 a, .int .i64 n, .bool false] w fun e w' => e = .returned .nilIface ∧ w = w' := by
  have p1 := hM.pc
  have p2 := hM.pd
  have hbig := hM.big
  have HM := Lib.hid hM
  have HZ := Lib.hid hz
  clear hM hz
  have h1 : ¬ (a : Int) < 0 := by omega
  have h2 : ¬ (cs.length : Int) - (a : Int) < (n : Int) := by omega
  have h3 : (0 : Int) ≤ (cs.length : Int) - (a : Int) := by omega
  generalize hN : cs.length = N at *
  have HN := Lib.hid hN
  clear hN
  go_enter Tryd.func41, Tryd.ntmps41
  go_wp2_with fail
  go_loop [9] (fun i => ∃ k : Nat, k ≤ n ∧ i = .int .i64 (a + k : Nat)) (fun i => a + n - (intOf i).toNat)
  case atStart => exact ⟨0, by omega, rfl⟩
  case round =>
    obtain ⟨k, hk, rfl⟩ := hrel
    by_cases hlt : k < n
    · have c1 := HM.out.hws (a + k) (by rw [HN.out]; omega)
      rw [HZ.out (a + k) (by omega) (by omega)] at c1
      have q1 : ((a + k : Nat) : Int) < (a : Int) + (n : Int) := by omega
      have q2 : ((a + k : Nat) : Int) < (N : Int) := by omega
      generalize hj : a + k = j at *
      go_wp2_with fail
      go_round
      case rel => exact ⟨k + 1, by omega, by rw [show a + (k + 1) = j + 1 by omega]; go_num⟩
      case measure => simp [intOf]; omega
    · have hkn : k = n := by omega
      subst hkn
      go_wp2_with fail
      go_ret
      exact ⟨rfl, rfl⟩

set_option maxHeartbeats 2000000 in
theorem map_32 (a n : Nat) (hn1 : 1 ≤ n) (hM : MemAt w m c d cs ws th ct) (hn : a + n ≤ cs.length) (hz : ∀ i, a ≤ i → i < a + n → ws.getD i 0 = 0) (ht0 : 0 ≤ th) (ht1 : th ≤ 1000000) :
    Calls Tryd.prog 21 #[.pointer (some ⟨m, 0, none⟩), .int .i64 a, .int .i64 n, .int .i64 32] w fun e w' => e = .returned .nilIface ∧ MemAt w' m c d (fillL cs a n 0) (fillL ws a n 32) (th + n) ct ∧ Upto (fun b => b = m ∨ b = c ∨ b = d) w w' := by
  have HM := Lib.hid hM
  have HZ := Lib.hid hz
  have hbig := hM.big
  have k1 : ¬ (n : Int) < 1 := by omega
  clear hM hz
  generalize hN : cs.length = N at *
  have HN := Lib.hid hN
  clear hN
  go_enter Tryd.func21, Tryd.ntmps21
  go_wp2_with (first | (go_at_call 41; refine (row_free m c d cs ws th ct _ a n HM.out (by rw [HN.out]; exact hn) HZ.out).mono ?_; rintro e w' ⟨rfl, rfl⟩))
  go_loopw [10] (fun i wr => ∃ k : Nat, k ≤ n ∧ i = .int .i64 (a + k : Nat) ∧ MemAt wr m c d (fillL cs a k 0) (fillL ws a k 32) th ct ∧ Upto (fun b => b = m ∨ b = c ∨ b = d) w wr) (fun i _ => a + n - (intOf i).toNat)
  case atStart => exact ⟨0, by omega, rfl, HM.out, Upto.refl _ _⟩
  case round =>
    obtain ⟨k, hk, rfl, hR, hU⟩ := hrel
    have hl : (fillL cs a k 0).length = N := by rw [fillL_length, HN.out]
    by_cases hlt : k < n
    · have hS1 := hR.setW (a + k) (by rw [hl]; omega) 32 (by omega) (by omega)
      have hS2 := hS1.setC (a + k) (by rw [hl]; omega) 0
      have p1 := hR.pd
      have p2 := hS1.pc
      have p3 := hR.hws (a + k) (by rw [hl]; omega)
      have p4 := hR.fd (a + k) (by rw [hl]; omega)
      have p5 := hS1.hcs (a + k) (by rw [hl]; omega)
      have p6 := hS1.fc (a + k) (by rw [hl]; omega)
      rw [hl] at p1 p2
      have S2 := Lib.hid hS2
      have U := Lib.hid hU
      clear hS1 hS2 hR hU hl
      have q1 : ((a + k : Nat) : Int) < (a : Int) + (n : Int) := by omega
      have q2 : ((a + k : Nat) : Int) < (N : Int) := by omega
      have hj2 : a + (k + 1) = a + k + 1 := by omega
      generalize hj : a + k = j at *
      have HJ2 := Lib.hid hj2
      have HJ := Lib.hid hj
      clear hj hj2
      go_wp2_with fail
      go_roundw
      case rel => exact ⟨k + 1, by omega, by rw [HJ2.out]; go_num, by unfold fillL; rw [HJ.out]; exact S2.out, (U.out.setCell (p := ⟨d, j, none⟩) (.inr (.inr rfl)) _).setCell (p := ⟨c, j, none⟩) (.inr (.inl rfl)) _⟩
      case measure => simp [intOf]; omega
    · have hkn : k = n := by omega
      subst hkn
      have hS1 := hR.setTh (th + k)
      have p1 := hR.hth
      have p2 := hR.fm 2 (by omega)
      have S1 := Lib.hid hS1
      have U := Lib.hid hU
      clear hS1 hR hU hl
      go_wp2_with fail
      go_ret
      exact ⟨rfl, S1.out, U.out.setCell (p := ⟨m, 2, none⟩) (.inl rfl) _⟩

set_option maxHeartbeats 2000000 in
theorem map_64 (a n : Nat) (hn1 : 1 ≤ n) (hM : MemAt w m c d cs ws th ct) (hn : a + n ≤ cs.length) (hz : ∀ i, a ≤ i → i < a + n → ws.getD i 0 = 0) (ht0 : 0 ≤ th) (ht1 : th ≤ 1000000) :
    Calls Tryd.prog 21 #[.pointer (some ⟨m, 0, none⟩), .int .i64 a, .int .i64 n, .int .i64 64] w fun e w' => e = .returned .nilIface ∧ MemAt w' m c d (fillL cs a n 0) (fillL ws a n 64) (th + n) ct ∧ Upto (fun b => b = m ∨ b = c ∨ b = d) w w' := by
  have HM := Lib.hid hM
  have HZ := Lib.hid hz
  have hbig := hM.big
  have k1 : ¬ (n : Int) < 1 := by omega
  clear hM hz
  generalize hN : cs.length = N at *
  have HN := Lib.hid hN
  clear hN
  go_enter Tryd.func21, Tryd.ntmps21
  go_wp2_with (first | (go_at_call 41; refine (row_free m c d cs ws th ct _ a n HM.out (by rw [HN.out]; exact hn) HZ.out).mono ?_; rintro e w' ⟨rfl, rfl⟩))
  go_loopw [10] (fun i wr => ∃ k : Nat, k ≤ n ∧ i = .int .i64 (a + k : Nat) ∧ MemAt wr m c d (fillL cs a k 0) (fillL ws a k 64) th ct ∧ Upto (fun b => b = m ∨ b = c ∨ b = d) w wr) (fun i _ => a + n - (intOf i).toNat)
  case atStart => exact ⟨0, by omega, rfl, HM.out, Upto.refl _ _⟩
  case round =>
    obtain ⟨k, hk, rfl, hR, hU⟩ := hrel
    have hl : (fillL cs a k 0).length = N := by rw [fillL_length, HN.out]
    by_cases hlt : k < n
    · have hS1 := hR.setW (a + k) (by rw [hl]; omega) 64 (by omega) (by omega)
      have hS2 := hS1.setC (a + k) (by rw [hl]; omega) 0
      have p1 := hR.pd
      have p2 := hS1.pc
      have p3 := hR.hws (a + k) (by rw [hl]; omega)
      have p4 := hR.fd (a + k) (by rw [hl]; omega)
      have p5 := hS1.hcs (a + k) (by rw [hl]; omega)
      have p6 := hS1.fc (a + k) (by rw [hl]; omega)
      rw [hl] at p1 p2
      have S2 := Lib.hid hS2
      have U := Lib.hid hU
      clear hS1 hS2 hR hU hl
      have q1 : ((a + k : Nat) : Int) < (a : Int) + (n : Int) := by omega
      have q2 : ((a + k : Nat) : Int) < (N : Int) := by omega
      have hj2 : a + (k + 1) = a + k + 1 := by omega
      generalize hj : a + k = j at *
      have HJ2 := Lib.hid hj2
      have HJ := Lib.hid hj
      clear hj hj2
      go_wp2_with fail
      go_roundw
      case rel => exact ⟨k + 1, by omega, by rw [HJ2.out]; go_num, by unfold fillL; rw [HJ.out]; exact S2.out, (U.out.setCell (p := ⟨d, j, none⟩) (.inr (.inr rfl)) _).setCell (p := ⟨c, j, none⟩) (.inr (.inl rfl)) _⟩
      case measure => simp [intOf]; omega
    · have hkn : k = n := by omega
      subst hkn
      have hS1 := hR.setTh (th + k)
      have p1 := hR.hth
      have p2 := hR.fm 2 (by omega)
      have S1 := Lib.hid hS1
      have U := Lib.hid hU
      clear hS1 hR hU hl
      go_wp2_with fail
      go_ret
      exact ⟨rfl, S1.out, U.out.setCell (p := ⟨m, 2, none⟩) (.inl rfl) _⟩

end
end Go.Proofs.YtoncebfhkoabaaaDoor
