/- Walk of CodeEdges: true for any input, wherever errors.errorType holds what start-up lays. -/
import Derived.Test.YtcbfaobepmhidaaDoorD2
import Derived.Test.YtcbfaobepmhidaaDoorC6
namespace Go.Proofs.YtcbfaobepmhidaaDoor
open Go.RowKit Go.Extern.Stop Go.Stop Go.Extern

def xR : InsD := ⟨16, 0, 0, 0, 0, 0, 0⟩
theorem may_xR (n : Int) : mayF xR n false = true := rfl
theorem check_xR (n : Nat) (h : 1 ≤ n) : checkF (List.replicate n xR) (fun x => mayF x (List.replicate n xR).length false) = if 2048 < n then some ([(codeS, 0)], 3) else none := by
  unfold checkF
  rw [List.length_replicate]
  by_cases h2 : 2048 < n
  · rw [if_pos h2, if_pos h2]
  · rw [if_neg h2, if_neg h2, firstBad_replicate, if_neg (by omega), if_pos (may_xR _)]
    rfl
theorem client_xR (q : Nat) (h : q ≤ 256) : clientF [xR] 0 q (256 - q) = none := by
  have hb : ¬ badArgs [xR] (q : Int) (256 - q) := by
    rintro (h | h | h | h | h)
    · omega
    · omega
    · omega
    · omega
    · cases h
  unfold clientF
  rw [if_neg hb]
  rfl
theorem client_xN (q : Nat) (_h : q ≤ 256) : clientF [xR] 0 q (256 - q + 1) = some ([(codeS, 0)], 1) := by
  unfold clientF
  rw [if_pos (.inr (.inr (.inr (.inl (by omega)))))]
theorem insAt_first {w : World} {b : Nat} {n : Nat} {x : InsD} (h : InsAt w b 0 (List.replicate n x)) (hn : 1 ≤ n) : InsAt w b 0 [x] := by
  intro i hi
  obtain rfl : i = 0 := by simp at hi; omega
  have h0 := h 0 (by simp; omega)
  simpa using h0
theorem client_yes (b cap q : Nat) (W : World) (hq : q ≤ 256) (hi : InsAt W b 0 [xR]) (hg : Gl W) :
    Calls Tryd.prog 23 #[.agg #[.slice (some ⟨b, 0, none⟩) 1 cap, .int .i64 0, .int .i64 q, .int .i64 (256 - q)]] W fun e w' => e = .returned .nilIface ∧ Ext W w' := by
  refine (client_any (some ⟨b, 0, none⟩) cap [xR] 0 q (256 - q) (by simp) W (fun _ => ⟨b, 0, rfl, hi⟩) hg).mono ?_
  rintro e w' ⟨v, rfl, hv, hx⟩
  rw [client_xR q hq] at hv
  exact ⟨by rw [show v = .nilIface from hv], hx⟩
theorem client_not (b cap q : Nat) (W : World) (hq : q ≤ 256) (hi : InsAt W b 0 [xR]) (hg : Gl W) :
    Calls Tryd.prog 23 #[.agg #[.slice (some ⟨b, 0, none⟩) 1 cap, .int .i64 0, .int .i64 q, .int .i64 (256 - q + 1)]] W fun e w' => ∃ v, e = .returned (.iface 67 v) ∧ Chain w' (.iface 67 v) [(codeS, 0)] 1 ∧ Ext W w' := by
  refine (client_any (some ⟨b, 0, none⟩) cap [xR] 0 q (256 - q + 1) (by simp) W (fun _ => ⟨b, 0, rfl, hi⟩) hg).mono ?_
  rintro e w' ⟨v, rfl, hv, hx⟩
  rw [client_xN q hq] at hv
  obtain ⟨c, rfl, hc⟩ := hv
  exact ⟨_, rfl, hc, hx⟩

set_option maxHeartbeats 4000000 in
theorem codeEdges_walk (n0 m0 : Int) (hn1 : -9223372036854775808 ≤ n0) (hn2 : n0 < 9223372036854775808) (hm1 : -9223372036854775808 ≤ m0) (hm2 : m0 < 9223372036854775808) (w : World) (hg : Gl w) :
    Calls Tryd.prog 9 #[.int .i64 n0, .int .i64 m0] w fun e w' => e = .returned (.bool true) ∧ Ext w w' := by
  have G := Lib.hid hg
  clear hg
  obtain ⟨i0, hi0, hz0, hz1, hz2⟩ := info_parts Tryd.insInfo
  have hb0 := Int.emod_nonneg n0 (show (5 : Int) ≠ 0 by omega)
  have hb1 := Int.emod_lt_of_pos n0 (show (0 : Int) < 5 by omega)
  obtain ⟨n, hn⟩ : ∃ n : Nat, 2046 + n0 % 5 = (n : Int) := ⟨(2046 + n0 % 5).toNat, by omega⟩
  have hr1 : 2046 ≤ n := by omega
  have hr2 : n ≤ 2050 := by omega
  have hc0 := Int.emod_nonneg m0 (show (257 : Int) ≠ 0 by omega)
  have hc1 := Int.emod_lt_of_pos m0 (show (0 : Int) < 257 by omega)
  obtain ⟨q, hq⟩ : ∃ q : Nat, m0 % 257 = (q : Int) := ⟨(m0 % 257).toNat, by omega⟩
  have hq2 : q ≤ 256 := by omega
  have HN := Lib.hid hn
  have HQ := Lib.hid hq
  clear hn hb0 hb1 hq hc0 hc1
  have hmk := fun W => run_make_rowN (P := Tryd.prog) 22 42 i0 _ Tryd.underlying22 hi0 hz0 .i64 .i64 n n (Nat.le_refl _) (by rw [hz2]; omega) (by omega) W
  rw [hz1] at hmk
  clear hi0 hz0 hz1 hz2
  go_enter Tryd.func9, Tryd.ntmps9
  go_upto_region 2 with (first | (go_at_call 21; refine (within_any _ _ hn1 hn2 (by omega) (by omega) _).mono ?_; rintro e w' ⟨rfl, rfl⟩))
  rw [HN.out]
  go_wp2_with fail
  go_loopw [7] (fun i wr => ∃ k : Nat, k ≤ n ∧ i = .int .i64 k ∧ Ext w wr ∧ Rows7 wr w.heap.size n k xR ∧ w.heap.size < wr.heap.size) (fun i _ => n - (intOf i).toNat)
  case atStart =>
    refine ⟨0, Nat.zero_le _, rfl, ext1 _ _, ⟨fun o ho => ⟨?_, ?_⟩, fun i hi => by omega⟩, by simp⟩
    · rw [World.cell?_alloc_at _ _ _ _ (by simp)]
      exact ⟨_, Array.getElem?_eq_getElem (by rw [size_madeCells]; exact ho)⟩
    · rw [World.frozen?_alloc_at _ _ _ _ (by simp)]
  case round =>
    obtain ⟨k, hk, rfl, hB, hR, hz⟩ := hrel
    by_cases hlt : k < n
    · have hz0 : (0 : Int) ≤ (k : Int) := by omega
      have hkn : (k : Int) < (n : Int) := by omega
      obtain ⟨⟨u100, s0⟩, z0⟩ := hR.1 (k * 7) (by omega)
      obtain ⟨⟨u101, s1⟩, z1⟩ := hR.1 (k * 7 + 1) (by omega)
      obtain ⟨⟨u102, s2⟩, z2⟩ := hR.1 (k * 7 + 2) (by omega)
      obtain ⟨⟨u103, s3⟩, z3⟩ := hR.1 (k * 7 + 3) (by omega)
      obtain ⟨⟨u104, s4⟩, z4⟩ := hR.1 (k * 7 + 4) (by omega)
      obtain ⟨⟨u105, s5⟩, z5⟩ := hR.1 (k * 7 + 5) (by omega)
      obtain ⟨⟨u106, s6⟩, z6⟩ := hR.1 (k * 7 + 6) (by omega)
      have HB := Lib.hid hB
      have HR := Lib.hid (hR.put hlt)
      clear hB hR
      go_wp2_with fail
      go_roundw
      case rel => exact ⟨k + 1, by omega, by go_num, HB.out.setCell (by simp) _ |>.setCell (by simp) _ |>.setCell (by simp) _ |>.setCell (by simp) _ |>.setCell (by simp) _ |>.setCell (by simp) _ |>.setCell (by simp) _, HR.out, by simp; omega⟩
      case measure => simp [intOf]; omega
    · have hkn : k = n := by omega
      subst hkn
      have HI := Lib.hid hR.insAt
      have HX := Lib.hid hB
      clear hB hR
      go_wp2_with fail
      refine (show Calls Tryd.prog 13 #[.slice (some ⟨w.heap.size, 0, none⟩) k k, .bool false] wr (CheckPost wr (if 2048 < k then some ([(codeS, 0)], 3) else none)) from by
        have h := check_any w.heap.size 0 k (List.replicate k xR) false (by simp; omega) wr HI.out
        rw [check_xR k (by omega), List.length_replicate] at h
        exact h).mono ?_
      rintro e w1 ⟨v, rfl, hv, hx⟩
      have HX1 := Lib.hid (HX.out.trans (hx.mono HX.out.size))
      have HI1 := Lib.hid (HI.out.ext hx)
      have HZ1 := Lib.hid (show w.heap.size < w1.heap.size from Nat.lt_of_lt_of_le hz hx.size)
      clear hx
      by_cases hbig : 2048 < k
      case' pos =>
        rw [if_pos hbig] at hv
        obtain ⟨c, rfl, hc⟩ := hv
        have HC := Lib.hid hc
        clear hc
        go_wp2_with fail
        refine (no_any _ _ _ w1).mono ?_
        rintro e w2 ⟨fb, rfl, hf, hx2⟩
        have X2 := Lib.hid (HX1.out.trans (hx2.mono HX1.out.size))
        have I2 := Lib.hid (HI1.out.ext hx2)
        have Z2 := Lib.hid (Nat.lt_of_lt_of_le HZ1.out hx2.size)
        have HC2 := Lib.hid (Below.chain hx2 HC.out)
        have HF := Lib.hid hf
        clear hx2 hf
        go_wp2_with fail
        refine (same_yes w2 fb 67 _ (codeS, 0) [] 3 (by omega) (by omega) HC2.out HF.out (Gl.ext G.out X2.out) (by simp)).mono ?_
        rintro e w3 ⟨rfl, hx3⟩
        have X3 := Lib.hid (X2.out.trans (hx3.mono X2.out.size))
        have I3 := Lib.hid (I2.out.ext hx3)
        have Z3 := Lib.hid (Nat.lt_of_lt_of_le Z2.out hx3.size)
        clear hx3
      case' neg =>
        rw [if_neg hbig] at hv
        obtain rfl : v = .nilIface := hv
        go_wp2_with fail
        refine (no_any _ _ _ w1).mono ?_
        rintro e w2 ⟨fb, rfl, hf, hx2⟩
        have X2 := Lib.hid (HX1.out.trans (hx2.mono HX1.out.size))
        have I2 := Lib.hid (HI1.out.ext hx2)
        have Z2 := Lib.hid (Nat.lt_of_lt_of_le HZ1.out hx2.size)
        clear hx2 hf
        go_wp2_with fail
        refine (same_nil_fail fb w2).mono ?_
        rintro e w3 ⟨rfl, nd, rfl⟩
        have hx3 : Ext w2 (w2.drewN nd) := ⟨rfl, rfl, rfl, Nat.le_refl _, fun _ _ => rfl⟩
        have X3 := Lib.hid (X2.out.trans (hx3.mono X2.out.size))
        have I3 := Lib.hid (I2.out.ext hx3)
        have Z3 := Lib.hid (Nat.lt_of_lt_of_le Z2.out hx3.size)
        clear hx3
        generalize w2.drewN nd = w3 at X3 I3 Z3 ⊢
      all_goals
        have hz3 : w.heap.size < w3.heap.size := Z3.out
        go_upto_region 11 with (first | (go_at_call 21; refine (within_any _ _ hm1 hm2 (by omega) (by omega) _).mono ?_; rintro e w' ⟨rfl, rfl⟩))
        rw [HQ.out]
        go_wp2_with fail
        refine (client_yes w.heap.size _ q _ hq2 (insAt_first (I3.out.ext (ext1 _ _)) (by omega)) (Gl.ext G.out (X3.out.trans ((ext1 _ _).mono X3.out.size)))).mono ?_
        rintro e w4 ⟨rfl, hx4⟩
        have p0 : w4.cell? ⟨w3.heap.size, 0, none⟩ = some (.slice (some ⟨w.heap.size, 0, none⟩) 1 k) := by rw [hx4.cell (by simp)]; simp
        have p1 : w4.cell? ⟨w3.heap.size, 1, none⟩ = some (.int .i64 0) := by rw [hx4.cell (by simp)]; simp
        have p2 : w4.cell? ⟨w3.heap.size, 2, none⟩ = some (.int .i64 q) := by rw [hx4.cell (by simp)]; simp
        have p3 : w4.cell? ⟨w3.heap.size, 3, none⟩ = some (.int .i64 (256 - q)) := by rw [hx4.cell (by simp)]; simp
        have f3 : w4.frozen? ⟨w3.heap.size, 3, none⟩ = false := by rw [hx4.frozen (by simp)]; simp
        have hx34 : Ext w3 w4 := (ext1 _ _).trans (hx4.mono (by simp))
        have X4 := Lib.hid (X3.out.trans (hx34.mono X3.out.size))
        have I4 := Lib.hid (I3.out.ext hx34)
        have hz4 : w3.heap.size < w4.heap.size := World.block_lt_of_cell? _ _ p0
        clear hx4 hx34
        go_wp2_with fail
        have hne : w3.heap.size ≠ w.heap.size := by omega
        have I5 := Lib.hid (show InsAt (w4.setCell ⟨w3.heap.size, 3, none⟩ (.int .i64 (256 - q + 1))) w.heap.size 0 (List.replicate k xR) from fun i hi => by
          obtain ⟨c0, c1, c2, c3, c4, c5, c6⟩ := I4.out i hi
          exact ⟨(World.cell?_setCell_far _ _ _ _ hne).trans c0, (World.cell?_setCell_far _ _ _ _ hne).trans c1, (World.cell?_setCell_far _ _ _ _ hne).trans c2, (World.cell?_setCell_far _ _ _ _ hne).trans c3, (World.cell?_setCell_far _ _ _ _ hne).trans c4, (World.cell?_setCell_far _ _ _ _ hne).trans c5, (World.cell?_setCell_far _ _ _ _ hne).trans c6⟩)
        have X5 := Lib.hid (show Ext w (w4.setCell ⟨w3.heap.size, 3, none⟩ (.int .i64 (256 - q + 1))) from X4.out.setCell (p := ⟨w3.heap.size, 3, none⟩) (by show w.heap.size ≤ w3.heap.size; omega) _)
        refine (client_not w.heap.size _ q _ hq2 (insAt_first I5.out (by omega)) (Gl.ext G.out X5.out)).mono ?_
        rintro e w6 ⟨v6, rfl, hc6, hx6⟩
        have X6 := Lib.hid (X5.out.trans (hx6.mono X5.out.size))
        have C6 := Lib.hid hc6
        clear hc6 hx6
        go_wp2_with fail
        refine (no_any _ _ _ w6).mono ?_
        rintro e w7 ⟨fb7, rfl, hf7, hx7⟩
        have X7 := Lib.hid (X6.out.trans (hx7.mono X6.out.size))
        have C7 := Lib.hid (Below.chain hx7 C6.out)
        have F7 := Lib.hid hf7
        clear hf7 hx7
        go_wp2_with fail
        refine (same_yes w7 fb7 67 _ (codeS, 0) [] 1 (by omega) (by omega) C7.out F7.out (Gl.ext G.out X7.out) (by simp)).mono ?_
        rintro e w8 ⟨rfl, hx8⟩
        have X8 := Lib.hid (X7.out.trans (hx8.mono X7.out.size))
        clear hx8
        go_wp2_with (first | (go_at_call 16; refine (awake_any _ (Gl.ext G.out X8.out)).mono ?_; rintro e w9 ⟨rfl, hx9⟩; have X9 := Lib.hid (X8.out.trans (hx9.mono X8.out.size)); clear hx9))
        go_ret
        exact ⟨rfl, X9.out⟩
end Go.Proofs.YtcbfaobepmhidaaDoor
