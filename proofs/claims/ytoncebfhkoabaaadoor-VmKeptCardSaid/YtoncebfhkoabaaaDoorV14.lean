/- Walk of the statements' 'both': two memories of twelve cells that hold alike. -/
import Derived.Test.YtoncebfhkoabaaaDoorV9
import Derived.Test.YtoncebfhkoabaaaDoorV13
namespace Go.Proofs.YtoncebfhkoabaaaDoor
open Go.RowKit

def U64Sl (w : World) (A : Option Addr) (vs : List Int) : Prop := vs ≠ [] → ∃ b o, A = some ⟨b, o, none⟩ ∧ ∀ i, i < vs.length → w.cell? ⟨b, o + i, none⟩ = some (.int .u64 (vs.getD i 0))
theorem U64Sl.ext {w w' : World} {A : Option Addr} {vs : List Int} (h : U64Sl w A vs) (hx : Ext w w') : U64Sl w' A vs := fun hn => by
  obtain ⟨b, o, e, hc⟩ := h hn
  exact ⟨b, o, e, fun i hi => (hx.cell (p := ⟨b, o + i, none⟩) (World.block_lt_of_cell? _ _ (hc i hi))).trans (hc i hi)⟩
def Rng (v : Int) : Prop := 0 ≤ v ∧ v < 18446744073709551616
def ws12 : List Int := [64, 64, 64, 64, 64, 64, 64, 64, 32, 32, 32, 0]
theorem ws12_eq : fillL (fillL (List.replicate 12 0) 0 8 64) 8 3 32 = ws12 := rfl
theorem cs12_eq : fillL (fillL (List.replicate 12 0) 0 8 0) 8 3 0 = List.replicate 12 0 := rfl
theorem ws12_ne {k : Nat} (h : k < 11) : ws12.getD k 0 ≠ 0 := by
  have : k = 0 ∨ k = 1 ∨ k = 2 ∨ k = 3 ∨ k = 4 ∨ k = 5 ∨ k = 6 ∨ k = 7 ∨ k = 8 ∨ k = 9 ∨ k = 10 := by omega
  rcases this with rfl | rfl | rfl | rfl | rfl | rfl | rfl | rfl | rfl | rfl | rfl <;> decide
def laid (vs : List Int) : Nat → List Int
  | 0 => List.replicate 12 0
  | k + 1 => (laid vs k).set k (cutF (ws12.getD k 0) (vs.getD k 0))
theorem laid_length (vs : List Int) (k : Nat) : (laid vs k).length = 12 := by
  induction k with
  | zero => rfl
  | succ k ih => simp [laid, ih]
theorem laid_rng (vs : List Int) (hv : ∀ i, Rng (vs.getD i 0)) (k i : Nat) : Rng ((laid vs k).getD i 0) := by
  induction k with
  | zero => unfold laid; rw [getD_rep]; unfold Rng; omega
  | succ k ih =>
    unfold laid
    by_cases hk : k < 12
    · rw [getD_set _ _ _ _ (by rw [laid_length]; exact hk)]
      split
      · exact cutF_range _ _ (hv k).1 (hv k).2
      · exact ih
    · rw [List.set_eq_of_length_le (by rw [laid_length]; omega)]; exact ih

/-- Two memories that hold alike, in six blocks of their own from B on. -/
structure Two (w : World) (B m c d m2 c2 d2 : Nat) (cs : List Int) (ct : Int) : Prop where
  p : MemAt w m c d cs ws12 11 ct
  q : RMemAt w m2 c2 d2 cs ws12 ct
  h1 : B ≤ m
  h2 : B ≤ c
  h3 : B ≤ d
  h4 : m < m2 ∧ m < c2 ∧ m < d2
  h5 : c < m2 ∧ c < c2 ∧ c < d2
  h6 : d < m2 ∧ d < c2 ∧ d < d2
theorem Two.ext {w w' : World} {B m c d m2 c2 d2 : Nat} {cs : List Int} {ct : Int} (h : Two w B m c d m2 c2 d2 cs ct) (hx : Ext w w') : Two w' B m c d m2 c2 d2 cs ct := ⟨h.p.ext hx, h.q.ext hx, h.h1, h.h2, h.h3, h.h4, h.h5, h.h6⟩
def BothPost (w : World) (vs : List Int) (n : Nat) (e : Ending) (w' : World) : Prop := ∃ m c d m2 c2 d2, e = .returned (.tuple #[.pointer (some ⟨m, 0, none⟩), .pointer (some ⟨m2, 0, none⟩)]) ∧ Two w' w.heap.size m c d m2 c2 d2 (laid vs n) n ∧ Ext w w'

set_option maxHeartbeats 8000000 in
set_option maxRecDepth 100000 in
theorem both_any (A : Option Addr) (cap : Nat) (vs : List Int) (hm : (vs.length : Int) ≤ 9223372036854775807) (w : World) (hi : U64Sl w A vs) (hr : ∀ i, Rng (vs.getD i 0)) :
    Calls Tryd.prog 5 #[.slice A vs.length cap] w (BothPost w vs (min vs.length 11)) := by
  have HI := Lib.hid hi
  have HR := Lib.hid hr
  clear hi hr
  go_enter Tryd.func5, Tryd.ntmps5
  go_wp2_with fail
  refine (new_any 12 (by omega) (by omega) w).mono ?_
  rintro e w1 ⟨m, c, d, rfl, hM, l1, l2, l3, hx1⟩
  have X1 := Lib.hid hx1
  have M1 := Lib.hid hM
  clear hx1 hM
  go_wp2_with fail
  refine (rnew_any 12 (by omega) (by omega) w1).mono ?_
  rintro e w2 ⟨m2, c2, d2, rfl, hM2, k1, k2, k3, hx2⟩
  have X2 := Lib.hid (X1.out.trans (hx2.mono X1.out.size))
  have M2 := Lib.hid (M1.out.ext hx2)
  have N2 := Lib.hid hM2
  have lt := And.intro M1.out.lm (And.intro M1.out.lc M1.out.ld)
  clear hx2 hM2
  go_wp2_with fail
  refine (map_64 m c d _ _ 0 0 w2 0 8 (by omega) M2.out (by simp) (fun i _ _ => getD_rep 12 i) (by omega) (by omega)).mono ?_
  rintro e w3 ⟨rfl, hM3, hu3⟩
  have M3 := Lib.hid hM3
  have X3 := Lib.hid (show Ext w w3 from X2.out.trans (hu3.below X2.out.size (by rintro k (rfl | rfl | rfl) <;> omega)))
  have N3 := Lib.hid (N2.out.upto hu3 (by omega) (by omega) (by omega))
  clear hM3 hu3
  go_wp2_with fail
  refine (map_32 m c d _ _ _ 0 w3 8 3 (by omega) M3.out (by rw [fillL_length]; simp) (fun i h1 h2 => by
    have : i = 8 ∨ i = 9 ∨ i = 10 := by omega
    rcases this with rfl | rfl | rfl <;> rfl) (by omega) (by omega)).mono ?_
  rintro e w4 ⟨rfl, hM4, hu4⟩
  have M4 := Lib.hid hM4
  have X4 := Lib.hid (show Ext w w4 from X3.out.trans (hu4.below X3.out.size (by rintro k (rfl | rfl | rfl) <;> omega)))
  have N4 := Lib.hid (N3.out.upto hu4 (by omega) (by omega) (by omega))
  clear hM4 hu4
  go_wp2_with fail
  refine (rmap_64 m2 c2 d2 _ _ 0 w4 0 8 (by omega) N4.out (by simp) (fun i _ _ => getD_rep 12 i)).mono ?_
  rintro e w5 ⟨rfl, hM5, hu5⟩
  have N5 := Lib.hid hM5
  have X5 := Lib.hid (show Ext w w5 from X4.out.trans (hu5.below X4.out.size (by rintro k (rfl | rfl | rfl) <;> omega)))
  have M5 := Lib.hid (M4.out.upto hu5 (by omega) (by omega) (by omega))
  clear hM5 hu5
  go_wp2_with fail
  refine (rmap_32 m2 c2 d2 _ _ 0 w5 8 3 (by omega) N5.out (by rw [fillL_length]; simp) (fun i h1 h2 => by
    have : i = 8 ∨ i = 9 ∨ i = 10 := by omega
    rcases this with rfl | rfl | rfl <;> rfl)).mono ?_
  rintro e w6 ⟨rfl, hM6, hu6⟩
  have X6 := Lib.hid (show Ext w w6 from X5.out.trans (hu6.below X5.out.size (by rintro k (rfl | rfl | rfl) <;> omega)))
  have T6 := Lib.hid (show Two w6 w.heap.size m c d m2 c2 d2 (laid vs 0) (0 : Nat) from ⟨M5.out.upto hu6 (by omega) (by omega) (by omega), hM6, l1, l2, l3, by omega, by omega, by omega⟩)
  clear hM6 hu6
  go_wp2_with fail
  go_loopw [8] (fun i wr => ∃ k : Nat, k ≤ min vs.length 11 ∧ i = .int .i64 k ∧ Two wr w.heap.size m c d m2 c2 d2 (laid vs k) k ∧ Ext w wr) (fun i _ => 11 - (intOf i).toNat)
  case atStart => exact ⟨0, Nat.zero_le _, rfl, T6.out, X6.out⟩
  case round =>
    obtain ⟨k, hk, rfl, hT, hX⟩ := hrel
    have T := Lib.hid hT
    have X := Lib.hid hX
    clear hT hX
    by_cases hlt : k < vs.length
    · by_cases h11 : k < 11
      · obtain ⟨b, o, rfl, hc⟩ := HI.out (by intro e; subst e; simp at hlt)
        have cw := hc k hlt
        have hbm := World.block_lt_of_cell? _ _ cw
        have c0 := (X.out.cell (p := ⟨b, o + k, none⟩) hbm).trans cw
        have hv := HR.out k
        have hs : laid vs (k + 1) = (laid vs k).set k (cutF (ws12.getD k 0) (vs.getD k 0)) := rfl
        clear hc
        generalize vs.getD k 0 = v at c0 cw hv hs
        have CW := Lib.hid cw
        clear cw
        have HS := Lib.hid hs
        have HV := Lib.hid hv
        clear hs hv
        have q0 : (0 : Int) ≤ (k : Int) := by omega
        have q1 : (k : Int) < (vs.length : Int) := by omega
        have q2 : (k : Int) < 11 := by omega
        generalize hN : vs.length = N at *
        have HN := Lib.hid hN
        clear hN
        go_wp2_with fail
        refine (store_hit m c d _ _ 11 k wr k v T.out.p (by rw [laid_length]; omega) (ws12_ne h11) (by omega) (by omega)).mono ?_
        rintro e w7 ⟨rfl, hm7, hu7⟩
        have P7 := Lib.hid hm7
        have X7 := Lib.hid (show Ext w w7 from X.out.trans (hu7.below X.out.size (by have := T.out.h1; have := T.out.h2; rintro k (rfl | rfl) <;> omega)))
        have Q7 := Lib.hid (T.out.q.upto hu7 (by have := T.out.h4; have := T.out.h5; have := T.out.h6; omega) (by have := T.out.h4; have := T.out.h5; have := T.out.h6; omega) (by have := T.out.h4; have := T.out.h5; have := T.out.h6; omega))
        have c7 := (X7.out.cell (p := ⟨b, o + k, none⟩) hbm).trans CW.out
        clear hm7 hu7
        go_wp2_with fail
        refine (rdo_hit m2 c2 d2 _ _ k w7 1 k 0 v (by omega) Q7.out (by rw [laid_length]; omega) (ws12_ne h11) (by omega) (by omega) (by omega) (by omega) HV.out.1 HV.out.2 (laid_rng vs HR.out k k)).mono ?_
        rintro e w8 ⟨rfl, hm8, hu8⟩
        have hP8 := P7.out.upto hu8 (by have := T.out.h4; have := T.out.h5; have := T.out.h6; omega) (by have := T.out.h4; have := T.out.h5; have := T.out.h6; omega) (by have := T.out.h4; have := T.out.h5; have := T.out.h6; omega)
        have T8 := Lib.hid (show Two w8 w.heap.size m c d m2 c2 d2 (laid vs (k + 1)) ((k + 1 : Nat) : Int) from ⟨by rw [HS.out]; simpa using hP8, by rw [HS.out]; simpa [newF] using hm8, T.out.h1, T.out.h2, T.out.h3, T.out.h4, T.out.h5, T.out.h6⟩)
        have X8 := Lib.hid (show Ext w w8 from X7.out.trans (hu8.below X7.out.size (by have := T.out.h1; have := T.out.h2; have := T.out.h4; have := T.out.h5; rintro k (rfl | rfl) <;> omega)))
        clear hm8 hu8 hP8
        go_wp2_with fail
        go_roundw
        case rel => exact ⟨k + 1, by omega, by go_num, T8.out, X8.out⟩
        case measure => simp [intOf]; omega
      · have hk11 : k = min vs.length 11 := by omega
        have q1 : (k : Int) < (vs.length : Int) := by omega
        have q2 : ¬ (k : Int) < 11 := by omega
        generalize hN : vs.length = N at *
        have HN := Lib.hid hN
        have HK := Lib.hid hk11
        clear hN hk11
        go_wp2_with fail
        go_ret2
        exact ⟨m, c, d, m2, c2, d2, rfl, by rw [← HK.out]; exact T.out, X.out⟩
    · have hkn : k = vs.length := by omega
      have hk11 : k = min vs.length 11 := by omega
      have q1 : ¬ (k : Int) < (vs.length : Int) := by omega
      generalize hN : vs.length = N at *
      have HN := Lib.hid hN
      have HK := Lib.hid hk11
      clear hN hk11 hkn
      go_wp2_with fail
      go_ret2
      exact ⟨m, c, d, m2, c2, d2, rfl, by rw [← HK.out]; exact T.out, X.out⟩
end Go.Proofs.YtoncebfhkoabaaaDoor
