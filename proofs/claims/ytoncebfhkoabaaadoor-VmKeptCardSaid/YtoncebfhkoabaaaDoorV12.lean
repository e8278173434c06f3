/- The document's memory (distaffref02): walks of Cut, Sum, New, in, Map, Width, Do. -/
import Derived.Test.YtoncebfhkoabaaaDoorV11
import Derived.Laws.BitsLemmas
namespace Go.Proofs.YtoncebfhkoabaaaDoor
open Go.RowKit

theorem wraps_u64 (n : Int) (h₀ : 0 ≤ n) (h₁ : n < 2 ^ 64) : IntKind.u64.wrap n = n := IntWalk.u64_in n ⟨h₀, by omega⟩
theorem cut32 (v : Int) (h0 : 0 ≤ v) (h1 : v < 18446744073709551616) : cutF 32 v = v % 4294967296 :=
  bits_mask .u64 64 (by decide) wraps_u64 32 (by decide) v h0 h1
theorem cutF_range (wd v : Int) (h0 : 0 ≤ v) (h1 : v < 18446744073709551616) : 0 ≤ cutF wd v ∧ cutF wd v < 18446744073709551616 := by
  by_cases e : wd = 32
  · subst e; rw [cut32 v h0 h1]; omega
  · unfold cutF; rw [if_neg e]; split <;> omega
theorem wrap_range (v : Int) : 0 ≤ IntKind.u64.wrap v ∧ IntKind.u64.wrap v < 18446744073709551616 := by
  have e : IntKind.u64.wrap v = v % 18446744073709551616 := by simp [IntKind.wrap, IntKind.bits, IntKind.signed]
  rw [e]; omega
theorem sumF_range (wd a b : Int) : 0 ≤ sumF wd a b ∧ sumF wd a b < 18446744073709551616 := cutF_range _ _ (wrap_range _).1 (wrap_range _).2
theorem rcut_any (wd v : Int) (h0 : 0 ≤ v) (h1 : v < 18446744073709551616) (w : World) : Calls Tryd.prog 45 #[.int .i64 wd, .int .u64 v] w fun e w' => e = .returned (.int .u64 (cutF wd v)) ∧ w = w' := by
  by_cases e1 : wd = 32
  · subst e1
    rw [cut32 v h0 h1]
    go_enter Tryd.func45, Tryd.ntmps45
    go_wp2
    go_ret
    exact ⟨rfl, rfl⟩
  · unfold cutF
    rw [if_neg e1]
    by_cases e2 : wd = 64
    · subst e2
      rw [if_pos rfl]
      go_enter Tryd.func45, Tryd.ntmps45
      go_wp2
      go_ret
      exact ⟨rfl, rfl⟩
    · rw [if_neg e2]
      have k1 : (wd == 32) = false := beq_eq_false_iff_ne.2 e1
      have k2 : (wd == 64) = false := beq_eq_false_iff_ne.2 e2
      clear e1 e2
      go_enter Tryd.func45, Tryd.ntmps45
      go_wp2
      go_ret
      exact ⟨rfl, rfl⟩
theorem rsum_any (wd a b : Int) (ha0 : 0 ≤ a) (ha1 : a < 18446744073709551616) (hb0 : 0 ≤ b) (hb1 : b < 18446744073709551616) (w : World) : Calls Tryd.prog 46 #[.int .i64 wd, .int .u64 a, .int .u64 b] w fun e w' => e = .returned (.int .u64 (sumF wd a b)) ∧ w = w' := by
  have A := Lib.hid (rcut_any wd a ha0 ha1)
  have B := Lib.hid (rcut_any wd b hb0 hb1)
  have C := Lib.hid (rcut_any wd _ (wrap_range (cutF wd a + cutF wd b)).1 (wrap_range (cutF wd a + cutF wd b)).2)
  clear ha0 ha1 hb0 hb1
  unfold sumF
  generalize cutF wd a = p at A C ⊢
  generalize cutF wd b = q at B C ⊢
  go_enter Tryd.func46, Tryd.ntmps46
  go_wp2_with (first | (go_at_call 45; ((with_reducible refine (A.out _).mono ?_); rintro e w' ⟨rfl, rfl⟩)) | (go_at_call 45; ((with_reducible refine (B.out _).mono ?_); rintro e w' ⟨rfl, rfl⟩)) | (go_at_call 45; ((with_reducible refine (C.out _).mono ?_); rintro e w' ⟨rfl, rfl⟩)))
  go_ret
  exact ⟨rfl, rfl⟩

/-- The document's memory: its struct in block m, its cells in block c, their widths in block d. -/
structure RMemAt (w : World) (m c d : Nat) (cs ws : List Int) (ct : Int) : Prop where
  len : ws.length = cs.length
  big : cs.length ≤ 65536
  pd : w.cell? ⟨m, 0, none⟩ = some (.slice (some ⟨d, 0, none⟩) cs.length cs.length)
  pc : w.cell? ⟨m, 1, none⟩ = some (.slice (some ⟨c, 0, none⟩) cs.length cs.length)
  hct : w.cell? ⟨m, 2, none⟩ = some (.int .i64 ct)
  hcs : ∀ i, i < cs.length → w.cell? ⟨c, i, none⟩ = some (.int .u64 (cs.getD i 0))
  hws : ∀ i, i < cs.length → w.cell? ⟨d, i, none⟩ = some (.int .i64 (ws.getD i 0))
  fm : ∀ i, i < 3 → w.frozen? ⟨m, i, none⟩ = false
  fc : ∀ i, i < cs.length → w.frozen? ⟨c, i, none⟩ = false
  fd : ∀ i, i < cs.length → w.frozen? ⟨d, i, none⟩ = false
  mc : m ≠ c
  md : m ≠ d
  cd : c ≠ d
  lm : m < w.heap.size
  lc : c < w.heap.size
  ld : d < w.heap.size
section
variable {w w' : World} {m c d : Nat} {cs ws : List Int} {ct : Int}
theorem RMemAt.upto {S : Nat → Prop} (h : RMemAt w m c d cs ws ct) (hu : Upto S w w') (h1 : ¬ S m) (h2 : ¬ S c) (h3 : ¬ S d) : RMemAt w' m c d cs ws ct :=
  ⟨h.len, h.big, (hu.cell (p := ⟨m, _, none⟩) h.lm h1).trans h.pd, (hu.cell (p := ⟨m, _, none⟩) h.lm h1).trans h.pc, (hu.cell (p := ⟨m, _, none⟩) h.lm h1).trans h.hct,
   fun i hi => (hu.cell (p := ⟨c, _, none⟩) h.lc h2).trans (h.hcs i hi), fun i hi => (hu.cell (p := ⟨d, _, none⟩) h.ld h3).trans (h.hws i hi),
   fun i hi => (hu.frozen (p := ⟨m, _, none⟩) h.lm h1).trans (h.fm i hi), fun i hi => (hu.frozen (p := ⟨c, _, none⟩) h.lc h2).trans (h.fc i hi), fun i hi => (hu.frozen (p := ⟨d, _, none⟩) h.ld h3).trans (h.fd i hi),
   h.mc, h.md, h.cd, Nat.lt_of_lt_of_le h.lm hu.size, Nat.lt_of_lt_of_le h.lc hu.size, Nat.lt_of_lt_of_le h.ld hu.size⟩
theorem RMemAt.ext (h : RMemAt w m c d cs ws ct) (hx : Ext w w') : RMemAt w' m c d cs ws ct := h.upto (S := fun _ => False) (Upto.of_ext hx) (fun h => h) (fun h => h) (fun h => h)
theorem RMemAt.setCt (h : RMemAt w m c d cs ws ct) (v : Int) : RMemAt (w.setCell ⟨m, 2, none⟩ (.int .i64 v)) m c d cs ws v :=
  ⟨h.len, h.big, (World.cell?_setCell_other _ _ _ _ (by simp)).trans h.pd, (World.cell?_setCell_other _ _ _ _ (by simp)).trans h.pc, World.cell?_setCell_same _ _ _ h.hct,
   fun i hi => (World.cell?_setCell_far _ _ _ _ h.mc).trans (h.hcs i hi), fun i hi => (World.cell?_setCell_far _ _ _ _ h.md).trans (h.hws i hi),
   fun i hi => by rw [World.frozen?_setCell]; exact h.fm i hi, fun i hi => by rw [World.frozen?_setCell]; exact h.fc i hi, fun i hi => by rw [World.frozen?_setCell]; exact h.fd i hi,
   h.mc, h.md, h.cd, by simpa using h.lm, by simpa using h.lc, by simpa using h.ld⟩
theorem RMemAt.setC (h : RMemAt w m c d cs ws ct) (k : Nat) (hk : k < cs.length) (v : Int) : RMemAt (w.setCell ⟨c, k, none⟩ (.int .u64 v)) m c d (cs.set k v) ws ct := by
  have e : (cs.set k v).length = cs.length := by simp
  refine ⟨by rw [e]; exact h.len, by rw [e]; exact h.big, ?_, ?_, (World.cell?_setCell_far _ _ _ _ h.mc.symm).trans h.hct, fun i hi => ?_, fun i hi => ?_,
    fun i hi => by rw [World.frozen?_setCell]; exact h.fm i hi, fun i hi => by rw [World.frozen?_setCell]; exact h.fc i (by omega), fun i hi => by rw [World.frozen?_setCell]; exact h.fd i (by omega), h.mc, h.md, h.cd, by simpa using h.lm, by simpa using h.lc, by simpa using h.ld⟩
  · rw [e]; exact (World.cell?_setCell_far _ _ _ _ h.mc.symm).trans h.pd
  · rw [e]; exact (World.cell?_setCell_far _ _ _ _ h.mc.symm).trans h.pc
  · rw [getD_set _ _ _ _ hk]
    by_cases ei : i = k
    · subst ei; rw [if_pos rfl]; exact World.cell?_setCell_same _ _ _ (h.hcs i (by omega))
    · rw [if_neg ei]; exact (World.cell?_setCell_other _ _ _ _ (by simp <;> omega)).trans (h.hcs i (by omega))
  · exact (World.cell?_setCell_far _ _ _ _ h.cd).trans (h.hws i (by omega))
theorem RMemAt.setW (h : RMemAt w m c d cs ws ct) (k : Nat) (hk : k < cs.length) (v : Int) : RMemAt (w.setCell ⟨d, k, none⟩ (.int .i64 v)) m c d cs (ws.set k v) ct := by
  have hl := h.len
  refine ⟨by simpa using hl, h.big, (World.cell?_setCell_far _ _ _ _ h.md.symm).trans h.pd, (World.cell?_setCell_far _ _ _ _ h.md.symm).trans h.pc, (World.cell?_setCell_far _ _ _ _ h.md.symm).trans h.hct, fun i hi => (World.cell?_setCell_far _ _ _ _ h.cd.symm).trans (h.hcs i hi), fun i hi => ?_,
    fun i hi => by rw [World.frozen?_setCell]; exact h.fm i hi, fun i hi => by rw [World.frozen?_setCell]; exact h.fc i (by omega), fun i hi => by rw [World.frozen?_setCell]; exact h.fd i (by omega), h.mc, h.md, h.cd, by simpa using h.lm, by simpa using h.lc, by simpa using h.ld⟩
  rw [getD_set _ _ _ _ (by omega)]
  by_cases ei : i = k
  · subst ei; rw [if_pos rfl]; exact World.cell?_setCell_same _ _ _ (h.hws i (by omega))
  · rw [if_neg ei]; exact (World.cell?_setCell_other _ _ _ _ (by simp <;> omega)).trans (h.hws i (by omega))
end

theorem Tryd.iInfo : (Tryd.prog.info? 3).map (fun i => (i.zero, i.size, i.bytes)) = some (some (.int .i64 0), 1, 8) := by kernel_rfl
theorem rmem_new (n : Nat) (hn : n ≤ 65536) (c d m : Nat) (W : World)
    (k0 : W.cell? ⟨m, 0, none⟩ = some (.slice (some ⟨d, 0, none⟩) n n)) (k1 : W.cell? ⟨m, 1, none⟩ = some (.slice (some ⟨c, 0, none⟩) n n)) (k2 : W.cell? ⟨m, 2, none⟩ = some (.int .i64 0))
    (hc : ∀ i, i < n → W.cell? ⟨c, i, none⟩ = some (.int .u64 0)) (hd : ∀ i, i < n → W.cell? ⟨d, i, none⟩ = some (.int .i64 0))
    (fm : ∀ i, W.frozen? ⟨m, i, none⟩ = false) (fc : ∀ i, W.frozen? ⟨c, i, none⟩ = false) (fd : ∀ i, W.frozen? ⟨d, i, none⟩ = false)
    (mc : m ≠ c) (md : m ≠ d) (cd : c ≠ d) (lm : m < W.heap.size) (lc : c < W.heap.size) (ld : d < W.heap.size) : RMemAt W m c d (List.replicate n 0) (List.replicate n 0) 0 := by
  refine ⟨by simp, by simpa using hn, by simpa using k0, by simpa using k1, k2, fun i hi => ?_, fun i hi => ?_, fun i _ => fm i, fun i _ => fc i, fun i _ => fd i, mc, md, cd, lm, lc, ld⟩
  · rw [getD_rep]; exact hc i (by simpa using hi)
  · rw [getD_rep]; exact hd i (by simpa using hi)
def RNewPost (w : World) (n : Nat) (e : Ending) (w' : World) : Prop := ∃ m c d, e = .returned (.tuple #[.pointer (some ⟨m, 0, none⟩), .pointer none]) ∧ RMemAt w' m c d (List.replicate n 0) (List.replicate n 0) 0 ∧ w.heap.size ≤ m ∧ w.heap.size ≤ c ∧ w.heap.size ≤ d ∧ Ext w w'
set_option maxHeartbeats 4000000 in
theorem rnew_any (n : Nat) (h1 : 1 ≤ n) (h2 : n ≤ 65536) (w : World) :
    Calls Tryd.prog 20 #[.int .i64 n] w (RNewPost w n) := by
  obtain ⟨i0, hi0, hz0, hz1, hz2⟩ := info_parts Tryd.u64Info
  obtain ⟨i1, hj0, hy0, hy1, hy2⟩ := info_parts Tryd.iInfo
  have hmk := fun W => run_make_rowM (P := Tryd.prog) 23 47 i0 _ Tryd.underlying23 hi0 hz0 .i64 .i64 n n (Nat.le_refl _) (by rw [hz2]; omega) (by omega) W
  have hmj := fun W => run_make_rowM (P := Tryd.prog) 24 3 i1 _ Tryd.underlying24 hj0 hy0 .i64 .i64 n n (Nat.le_refl _) (by rw [hy2]; omega) (by omega) W
  rw [hz1, Nat.mul_one] at hmk
  rw [hy1, Nat.mul_one] at hmj
  clear hi0 hz0 hz1 hz2 hj0 hy0 hy1 hy2
  have hn1 : ¬ (n : Int) < 1 := by omega
  have hn2 : ¬ (65536 : Int) < (n : Int) := by omega
  go_enter Tryd.func20, Tryd.ntmps20
  go_wp2_with fail
  go_region
  all_goals
    go_wp2_with fail
    go_ret2
  · exact ⟨w.heap.size + 1 + 1, w.heap.size + 1, w.heap.size, rfl,
      rmem_new n h2 (w.heap.size + 1) w.heap.size (w.heap.size + 1 + 1) (tri w _ _ _) (by rw [tri_2]; rfl) (by rw [tri_2]; rfl) (by rw [tri_2]; rfl)
        (fun i hi => by rw [tri_1]; exact new_cell hi) (fun i hi => by rw [tri_0]; exact new_cell hi) (fun i => tri_f2 _ _ _ i _ _) (fun i => tri_f1 _ _ _ i _ _) (fun i => tri_f0 _ _ _ i _ _)
        (by omega) (by omega) (by omega) (by rw [tri_size]; omega) (by rw [tri_size]; omega) (by rw [tri_size]; omega), by omega, by omega, by omega, tri_ext _ _ _ _⟩
  · exact ⟨w.heap.size + 1 + 1, w.heap.size, w.heap.size + 1, rfl,
      rmem_new n h2 w.heap.size (w.heap.size + 1) (w.heap.size + 1 + 1) (tri w _ _ _) (by rw [tri_2]; rfl) (by rw [tri_2]; rfl) (by rw [tri_2]; rfl)
        (fun i hi => by rw [tri_0]; exact new_cell hi) (fun i hi => by rw [tri_1]; exact new_cell hi) (fun i => tri_f2 _ _ _ i _ _) (fun i => tri_f0 _ _ _ i _ _) (fun i => tri_f1 _ _ _ i _ _)
        (by omega) (by omega) (by omega) (by rw [tri_size]; omega) (by rw [tri_size]; omega) (by rw [tri_size]; omega), by omega, by omega, by omega, tri_ext _ _ _ _⟩

section
variable (m c d : Nat) (cs ws : List Int) (ct : Int) (w : World)
theorem rin_any (a n : Nat) (hM : RMemAt w m c d cs ws ct) (hn : a + n ≤ cs.length) :
    Calls Tryd.prog 42 #[.pointer (some ⟨m, 0, none⟩), .int .i64 a, .int .i64 n] w fun e w' => e = .returned (.bool true) ∧ w = w' := by
  have p1 := hM.pd
  have hbig := hM.big
  clear hM
  generalize cs.length = N at *
  have h1 : (0 : Int) ≤ (a : Int) := by omega
  have h2 : (n : Int) ≤ (N : Int) := by omega
  have h3 : (a : Int) ≤ (N : Int) - (n : Int) := by omega
  go_enter Tryd.func42, Tryd.ntmps42
  go_wp2_with fail
  go_ret
  exact ⟨by simp, rfl⟩
theorem rwidth_any (a : Int) (h0 : 0 ≤ a) (hM : RMemAt w m c d cs ws ct) : Calls Tryd.prog 44 #[.pointer (some ⟨m, 0, none⟩), .int .u64 a] w fun e w' => e = .returned (.int .i64 (widthF ws a)) ∧ w = w' := by
  have hl := hM.len
  have hbig := hM.big
  unfold widthF
  have p2 := hM.pd
  by_cases h : a < cs.length
  · rw [if_pos ⟨h0, by omega⟩]
    have p3 := hM.hws a.toNat (by omega)
    generalize ws.getD a.toNat 0 = u at p3 ⊢
    clear hM hl
    generalize cs.length = n at *
    go_enter Tryd.func44, Tryd.ntmps44
    go_wp2_with fail
    go_ret
    exact ⟨rfl, rfl⟩
  · rw [if_neg (by omega)]
    clear hM hl
    generalize cs.length = n at *
    go_enter Tryd.func44, Tryd.ntmps44
    go_wp2_with fail
    go_ret
    exact ⟨rfl, rfl⟩
set_option maxHeartbeats 4000000 in
theorem rmap_32 (a n : Nat) (hn1 : 1 ≤ n) (hM : RMemAt w m c d cs ws ct) (hn : a + n ≤ cs.length) (hz : ∀ i, a ≤ i → i < a + n → ws.getD i 0 = 0) :
    Calls Tryd.prog 22 #[.pointer (some ⟨m, 0, none⟩), .int .i64 a, .int .i64 n, .int .i64 32] w fun e w' => e = .returned (.pointer none) ∧ RMemAt w' m c d (fillL cs a n 0) (fillL ws a n 32) ct ∧ Upto (fun b => b = m ∨ b = c ∨ b = d) w w' := by
  have HM := Lib.hid hM
  have HZ := Lib.hid hz
  have hbig := hM.big
  have k1 : ¬ (n : Int) < 1 := by omega
  have p0 := hM.pd
  clear hM hz
  generalize hN : cs.length = N at *
  have HN := Lib.hid hN
  clear hN
  go_enter Tryd.func22, Tryd.ntmps22
  go_wp2_with (first | (go_at_call 42; refine (rin_any m c d cs ws ct _ a n HM.out (by rw [HN.out]; exact hn)).mono ?_; rintro e w' ⟨rfl, rfl⟩))
  go_loop [9] (fun i => ∃ k : Nat, k ≤ n ∧ i = .int .i64 (a + k : Nat)) (fun i => a + n - (intOf i).toNat)
  case atStart => exact ⟨0, by omega, rfl⟩
  case round =>
    obtain ⟨k, hk, rfl⟩ := hrel
    by_cases hlt : k < n
    · have c1 := HM.out.hws (a + k) (by rw [HN.out]; omega)
      rw [HZ.out (a + k) (by omega) (by omega)] at c1
      have q1 : ((a + k : Nat) : Int) < (a : Int) + (n : Int) := by omega
      have q2 : ((a + k : Nat) : Int) < (N : Int) := by omega
      generalize hj : a + k = j at *
      go_wp2_with fail
      go_round
      case rel => exact ⟨k + 1, by omega, by rw [show a + (k + 1) = j + 1 by omega]; go_num⟩
      case measure => simp [intOf]; omega
    · have hkn : k = n := by omega
      subst hkn
      clear p0
      go_wp2_with fail
      go_loopw [10] (fun i wr => ∃ q : Nat, q ≤ k ∧ i = .int .i64 (a + q : Nat) ∧ RMemAt wr m c d (fillL cs a q 0) (fillL ws a q 32) ct ∧ Upto (fun b => b = m ∨ b = c ∨ b = d) w wr) (fun i _ => a + k - (intOf i).toNat)
      case atStart => exact ⟨0, by omega, rfl, HM.out, Upto.refl _ _⟩
      case round =>
        obtain ⟨q, hq, rfl, hR, hU⟩ := hrel
        have hl : (fillL cs a q 0).length = N := by rw [fillL_length, HN.out]
        by_cases hlt : q < k
        · have hS1 := hR.setW (a + q) (by rw [hl]; omega) 32
          have hS2 := hS1.setC (a + q) (by rw [hl]; omega) 0
          have hT1 := hR.setC (a + q) (by rw [hl]; omega) 0
          have hT2 := hT1.setW (a + q) (by simp [hl]; omega) 32
          have p1 := hR.pd
          have p2 := hR.pc
          have p3 := hR.hws (a + q) (by rw [hl]; omega)
          have p4 := hR.fd (a + q) (by rw [hl]; omega)
          have p5 := hR.hcs (a + q) (by rw [hl]; omega)
          have p6 := hR.fc (a + q) (by rw [hl]; omega)
          have p7 := hS1.hcs (a + q) (by rw [hl]; omega)
          have p8 := hT1.hws (a + q) (by simp [hl]; omega)
          have p9 := hR.cd
          have p10 := p9.symm
          rw [hl] at p1 p2
          have S2 := Lib.hid hS2
          have T2 := Lib.hid hT2
          have U := Lib.hid hU
          clear hS1 hS2 hT1 hT2 hR hU hl
          have q1 : ((a + q : Nat) : Int) < (a : Int) + (k : Int) := by omega
          have q2 : ((a + q : Nat) : Int) < (N : Int) := by omega
          have q3 : (0 : Int) ≤ ((a + q : Nat) : Int) := by omega
          have hj2 : a + (q + 1) = a + q + 1 := by omega
          generalize hj : a + q = j at *
          have HJ2 := Lib.hid hj2
          have HJ := Lib.hid hj
          clear hj hj2
          go_wp2_with fail
          go_region
          all_goals
            go_wp2_with fail
            go_roundw
            case rel => first
              | exact ⟨q + 1, by omega, by rw [HJ2.out]; go_num, by unfold fillL; rw [HJ.out]; exact (S2.out.ext (Below.refl _ _).drew), (U.out.setCell (p := ⟨d, j, none⟩) (.inr (.inr rfl)) _).setCell (p := ⟨c, j, none⟩) (.inr (.inl rfl)) _ |>.drew⟩
              | exact ⟨q + 1, by omega, by rw [HJ2.out]; go_num, by unfold fillL; rw [HJ.out]; exact (T2.out.ext (Below.refl _ _).drew), (U.out.setCell (p := ⟨c, j, none⟩) (.inr (.inl rfl)) _).setCell (p := ⟨d, j, none⟩) (.inr (.inr rfl)) _ |>.drew⟩
            case measure => simp [intOf]; omega
        · have hqk : q = k := by omega
          subst hqk
          have S1 := Lib.hid hR
          have U := Lib.hid hU
          clear hR hU hl
          go_wp2_with fail
          go_ret
          exact ⟨rfl, S1.out, U.out⟩

set_option maxHeartbeats 4000000 in
theorem rmap_64 (a n : Nat) (hn1 : 1 ≤ n) (hM : RMemAt w m c d cs ws ct) (hn : a + n ≤ cs.length) (hz : ∀ i, a ≤ i → i < a + n → ws.getD i 0 = 0) :
    Calls Tryd.prog 22 #[.pointer (some ⟨m, 0, none⟩), .int .i64 a, .int .i64 n, .int .i64 64] w fun e w' => e = .returned (.pointer none) ∧ RMemAt w' m c d (fillL cs a n 0) (fillL ws a n 64) ct ∧ Upto (fun b => b = m ∨ b = c ∨ b = d) w w' := by
  have HM := Lib.hid hM
  have HZ := Lib.hid hz
  have hbig := hM.big
  have k1 : ¬ (n : Int) < 1 := by omega
  have p0 := hM.pd
  clear hM hz
  generalize hN : cs.length = N at *
  have HN := Lib.hid hN
  clear hN
  go_enter Tryd.func22, Tryd.ntmps22
  go_wp2_with (first | (go_at_call 42; refine (rin_any m c d cs ws ct _ a n HM.out (by rw [HN.out]; exact hn)).mono ?_; rintro e w' ⟨rfl, rfl⟩))
  go_loop [9] (fun i => ∃ k : Nat, k ≤ n ∧ i = .int .i64 (a + k : Nat)) (fun i => a + n - (intOf i).toNat)
  case atStart => exact ⟨0, by omega, rfl⟩
  case round =>
    obtain ⟨k, hk, rfl⟩ := hrel
    by_cases hlt : k < n
    · have c1 := HM.out.hws (a + k) (by rw [HN.out]; omega)
      rw [HZ.out (a + k) (by omega) (by omega)] at c1
      have q1 : ((a + k : Nat) : Int) < (a : Int) + (n : Int) := by omega
      have q2 : ((a + k : Nat) : Int) < (N : Int) := by omega
      generalize hj : a + k = j at *
      go_wp2_with fail
      go_round
      case rel => exact ⟨k + 1, by omega, by rw [show a + (k + 1) = j + 1 by omega]; go_num⟩
      case measure => simp [intOf]; omega
    · have hkn : k = n := by omega
      subst hkn
      clear p0
      go_wp2_with fail
      go_loopw [10] (fun i wr => ∃ q : Nat, q ≤ k ∧ i = .int .i64 (a + q : Nat) ∧ RMemAt wr m c d (fillL cs a q 0) (fillL ws a q 64) ct ∧ Upto (fun b => b = m ∨ b = c ∨ b = d) w wr) (fun i _ => a + k - (intOf i).toNat)
      case atStart => exact ⟨0, by omega, rfl, HM.out, Upto.refl _ _⟩
      case round =>
        obtain ⟨q, hq, rfl, hR, hU⟩ := hrel
        have hl : (fillL cs a q 0).length = N := by rw [fillL_length, HN.out]
        by_cases hlt : q < k
        · have hS1 := hR.setW (a + q) (by rw [hl]; omega) 64
          have hS2 := hS1.setC (a + q) (by rw [hl]; omega) 0
          have hT1 := hR.setC (a + q) (by rw [hl]; omega) 0
          have hT2 := hT1.setW (a + q) (by simp [hl]; omega) 64
          have p1 := hR.pd
          have p2 := hR.pc
          have p3 := hR.hws (a + q) (by rw [hl]; omega)
          have p4 := hR.fd (a + q) (by rw [hl]; omega)
          have p5 := hR.hcs (a + q) (by rw [hl]; omega)
          have p6 := hR.fc (a + q) (by rw [hl]; omega)
          have p7 := hS1.hcs (a + q) (by rw [hl]; omega)
          have p8 := hT1.hws (a + q) (by simp [hl]; omega)
          have p9 := hR.cd
          have p10 := p9.symm
          rw [hl] at p1 p2
          have S2 := Lib.hid hS2
          have T2 := Lib.hid hT2
          have U := Lib.hid hU
          clear hS1 hS2 hT1 hT2 hR hU hl
          have q1 : ((a + q : Nat) : Int) < (a : Int) + (k : Int) := by omega
          have q2 : ((a + q : Nat) : Int) < (N : Int) := by omega
          have q3 : (0 : Int) ≤ ((a + q : Nat) : Int) := by omega
          have hj2 : a + (q + 1) = a + q + 1 := by omega
          generalize hj : a + q = j at *
          have HJ2 := Lib.hid hj2
          have HJ := Lib.hid hj
          clear hj hj2
          go_wp2_with fail
          go_region
          all_goals
            go_wp2_with fail
            go_roundw
            case rel => first
              | exact ⟨q + 1, by omega, by rw [HJ2.out]; go_num, by unfold fillL; rw [HJ.out]; exact (S2.out.ext (Below.refl _ _).drew), (U.out.setCell (p := ⟨d, j, none⟩) (.inr (.inr rfl)) _).setCell (p := ⟨c, j, none⟩) (.inr (.inl rfl)) _ |>.drew⟩
              | exact ⟨q + 1, by omega, by rw [HJ2.out]; go_num, by unfold fillL; rw [HJ.out]; exact (T2.out.ext (Below.refl _ _).drew), (U.out.setCell (p := ⟨c, j, none⟩) (.inr (.inl rfl)) _).setCell (p := ⟨d, j, none⟩) (.inr (.inr rfl)) _ |>.drew⟩
            case measure => simp [intOf]; omega
        · have hqk : q = k := by omega
          subst hqk
          have S1 := Lib.hid hR
          have U := Lib.hid hU
          clear hR hU hl
          go_wp2_with fail
          go_ret
          exact ⟨rfl, S1.out, U.out⟩

end
end Go.Proofs.YtoncebfhkoabaaaDoor
