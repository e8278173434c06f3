/- Walk of the statements' 'frame', without places to come back to. -/
import Derived.Test.YtoncebfhkoabaaaDoorV14
import Derived.Test.YtoncebfhkoabaaaDoorV18
import Derived.Test.YtoncebfhkoabaaaDoorV3
namespace Go.Proofs.YtoncebfhkoabaaaDoor
open Go.RowKit

/-- The registers behind k rounds. -/
def loadR (vs : List Int) : Nat → List Int
  | 0 => List.replicate 32 0
  | k + 1 => (loadR vs k).set k (vs.getD k 0)
theorem loadR_length (vs : List Int) (k : Nat) : (loadR vs k).length = 32 := by
  induction k with
  | zero => rfl
  | succ k ih => simp [loadR, ih]
def FramePost (w : World) (pc : Int) (r : List Int) (e : Ending) (w' : World) : Prop :=
  ∃ f g A1 A2 c1 c2, e = .returned (.tuple #[.pointer (some ⟨f, 0, none⟩), .pointer (some ⟨g, 0, none⟩)]) ∧ FrAt w' f 0 pc r A1 0 c1 ∧ FrAt w' g 0 pc r A2 0 c2 ∧ w.heap.size ≤ f ∧ w.heap.size ≤ g ∧ f ≠ g ∧ Ext w w'

theorem fr_newT (T : TypeId) (W : World) (pc : Int) (r : List Int) (h : r.length = 32) : FrAt (W.alloc (.cells (frCells pc r) T)) W.heap.size 0 pc r none 0 0 := by
  refine ⟨?_, h, fun i hi => ?_, ?_, fun i _ => ?_⟩
  · rw [World.cell?_alloc_at _ _ _ _ rfl]; simp [frCells]
  · rw [World.cell?_alloc_at _ _ _ _ rfl]
    have e : (0 + 1 + i) = i + 1 := by omega
    rw [e]
    simp only [frCells, List.getElem?_toArray, List.getElem?_cons_succ]
    rw [List.getElem?_append_left (by simp; omega), List.getElem?_map, List.getD_eq_getElem?_getD, List.getElem?_eq_getElem (by omega)]
    rfl
  · rw [World.cell?_alloc_at _ _ _ _ rfl]
    simp only [frCells, List.getElem?_toArray, Nat.zero_add, List.getElem?_cons_succ]
    rw [List.getElem?_append_right (by simp; omega)]
    simp [h]
  · exact World.frozen?_alloc_at _ _ _ _ rfl
theorem fr_newT2 (T : TypeId) (O : Obj) (W : World) (pc : Int) (r : List Int) (h : r.length = 32) : FrAt ((W.alloc O).alloc (.cells (frCells pc r) T)) (W.heap.size + 1) 0 pc r none 0 0 := by
  have h := fr_newT T (W.alloc O) pc r h
  rw [show (W.alloc O).heap.size = W.heap.size + 1 by simp] at h
  exact h

set_option maxHeartbeats 8000000 in
set_option maxRecDepth 100000 in
theorem frame_any (pc : Int) (A : Option Addr) (cap : Nat) (vs : List Int) (hm : (vs.length : Int) ≤ 9223372036854775807) (w : World) (hi : U64Sl w A vs) :
    Calls Tryd.prog 7 #[.int .i64 pc, .slice A vs.length cap, .slice none 0 0] w (FramePost w pc (loadR vs (min vs.length 32))) := by
  have HI := Lib.hid hi
  clear hi
  go_enter Tryd.func7, Tryd.ntmps7
  go_wp2_with fail
  go_loopw [10] (fun i wr => ∃ k : Nat, k ≤ min vs.length 32 ∧ i = .int .i64 k ∧ FrAt wr w.heap.size 0 pc (loadR vs k) none 0 0 ∧ FrAt wr (w.heap.size + 1) 0 pc (loadR vs k) none 0 0 ∧ Ext w wr) (fun i _ => 32 - (intOf i).toNat)
  case atStart =>
    exact ⟨0, Nat.zero_le _, rfl, (fr_newT 50 w pc (List.replicate 32 0) rfl).ext (ext1 _ _), fr_newT2 70 _ w pc (List.replicate 32 0) rfl, (ext1 _ _).alloc (by simp) _⟩
  case round =>
    obtain ⟨k, hk, rfl, hF, hG, hX⟩ := hrel
    have X := Lib.hid hX
    clear hX
    by_cases hlt : k < vs.length
    · by_cases h32 : k < 32
      · obtain ⟨b, o, rfl, hc⟩ := HI.out (by intro e; subst e; simp at hlt)
        have cw := hc k hlt
        have hbm := World.block_lt_of_cell? _ _ cw
        have c0 := (X.out.cell (p := ⟨b, o + k, none⟩) hbm).trans cw
        have hs : loadR vs (k + 1) = (loadR vs k).set k (vs.getD k 0) := rfl
        have p1 := hF.r k h32
        have p2 := hF.fz (1 + k) (by omega)
        have p3 := hG.r k h32
        have p4 := hG.fz (1 + k) (by omega)
        have hF' := hF.setR k h32 (vs.getD k 0)
        have hG' := hG.setR k h32 (vs.getD k 0)
        have hF2 := hF'.upto (S := (· = w.heap.size + 1)) ((Upto.refl _ _).setB (0 + 1 + k) (.int .u64 (vs.getD k 0))) (by omega)
        have hG2 : FrAt ((wr.setCell ⟨w.heap.size, 0 + 1 + k, none⟩ (.int .u64 (vs.getD k 0))).setCell ⟨w.heap.size + 1, 0 + 1 + k, none⟩ (.int .u64 (vs.getD k 0))) (w.heap.size + 1) 0 pc ((loadR vs k).set k (vs.getD k 0)) none 0 0 :=
          (hG.upto (S := (· = w.heap.size)) ((Upto.refl _ _).setB (0 + 1 + k) (.int .u64 (vs.getD k 0))) (by omega)).setR k h32 (vs.getD k 0)
        clear hc cw hF' hG' hF hG
        generalize vs.getD k 0 = v at c0 hs hF2 hG2
        generalize (loadR vs k).getD k 0 = u at p1 p3
        have HS := Lib.hid hs
        clear hs
        simp only [Nat.zero_add] at p1 p2 p3 p4 hF2 hG2
        have F2 := Lib.hid (hF2.ext (Below.refl _ _).drew)
        have G2 := Lib.hid (hG2.ext (Below.refl _ _).drew)
        clear hF2 hG2
        have q0 : (0 : Int) ≤ (k : Int) := by omega
        have q1 : (k : Int) < (vs.length : Int) := by omega
        have q2 : (k : Int) < 32 := by omega
        generalize hN : vs.length = N at *
        have HN := Lib.hid hN
        clear hN
        go_wp2_with fail
        go_region
        all_goals
          go_wp2_with fail
          go_roundw
          case rel => exact ⟨k + 1, by omega, by go_num, by rw [HS.out]; exact F2.out, by rw [HS.out]; exact G2.out, (X.out.setCell (p := ⟨w.heap.size, 1 + k, none⟩) (Nat.le_refl _) _).setCell (p := ⟨w.heap.size + 1, 1 + k, none⟩) (Nat.le_succ _) _ |>.drew⟩
          case measure => simp [intOf]; omega
      · have HK := Lib.hid (show k = min vs.length 32 by omega)
        have q1 : (k : Int) < (vs.length : Int) := by omega
        have q2 : ¬ (k : Int) < 32 := by omega
        have F2 := Lib.hid hF
        have G2 := Lib.hid hG
        clear hF hG
        generalize hN : vs.length = N at *
        have HN := Lib.hid hN
        clear hN
        go_wp2_with fail
        refine wp_loop_rounds 1 ?_
        rw [rounds_succ]
        go_wp2_with fail
        go_ret2
        exact ⟨_, _, none, none, 0, 0, rfl, by rw [← HK.out]; exact F2.out, by rw [← HK.out]; exact G2.out, Nat.le_refl _, Nat.le_succ _, by omega, X.out⟩
    · have HK := Lib.hid (show k = min vs.length 32 by omega)
      have q1 : ¬ (k : Int) < (vs.length : Int) := by omega
      have F2 := Lib.hid hF
      have G2 := Lib.hid hG
      clear hF hG
      generalize hN : vs.length = N at *
      have HN := Lib.hid hN
      clear hN
      go_wp2_with fail
      refine wp_loop_rounds 1 ?_
      rw [rounds_succ]
      go_wp2_with fail
      go_ret2
      exact ⟨_, _, none, none, 0, 0, rfl, by rw [← HK.out]; exact F2.out, by rw [← HK.out]; exact G2.out, Nat.le_refl _, Nat.le_succ _, by omega, X.out⟩
end Go.Proofs.YtoncebfhkoabaaaDoor
