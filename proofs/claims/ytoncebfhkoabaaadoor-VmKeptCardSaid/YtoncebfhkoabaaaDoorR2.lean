/- The document's Step: what goes nowhere; Set, Mov, jumps. -/
import Derived.Test.YtoncebfhkoabaaaDoorR1
import Derived.Deep.QuietTactic
import Derived.BigQuiet
namespace Go.Proofs.YtoncebfhkoabaaaDoor
open Go.RowKit Go.Extern.Stop Go.Stop Go.Extern

/-- What a step leaves. -/
def RStepPost (M : Nat → Prop) (w : World) (b o : Nat) (how pc : Int) (r bk : List Int) (e : Ending) (w' : World) : Prop :=
  e = .returned (.tuple #[.int .i64 how, .pointer none]) ∧ FrB M w' b o pc r bk ∧ Upto (· = b) w w'
section
variable (M : Nat → Prop) (b o bc off ccap : Nat) (l : List InsD) (r bk : List Int) (mv : Value) (w : World)

set_option maxRecDepth 100000 in
set_option maxHeartbeats 2000000 in
theorem rstep_out (pc : Int) (hF : FrB M w b o pc r bk) (hlen : l.length ≤ 1000000) (hpc : pc < 0 ∨ (l.length : Int) ≤ pc) (A : Option Addr) :
    Calls Tryd.prog 11 #[.pointer (some ⟨b, o, none⟩), .slice A l.length ccap, mv] w (RStepPost M w b o 3 pc r bk) := by
  obtain ⟨A2, cap, hFr, hB, hcap, hM⟩ := hF
  have h0 := hFr.pc
  have HF := Lib.hid hFr
  have HB := Lib.hid hB
  have HM := Lib.hid hM
  clear hFr hB hM
  unfold RStepPost FrB
  rcases hpc with hpc | hpc
  · go_enter Tryd.func11, Tryd.ntmps11
    go_wp2_with fail
    go_ret2
    exact ⟨rfl, ⟨A2, cap, HF.out, HB.out, hcap, HM.out⟩, Upto.refl _ _⟩
  · have h1 : ¬ pc < 0 := by omega
    go_enter Tryd.func11, Tryd.ntmps11
    go_wp2_with fail
    go_ret2
    exact ⟨rfl, ⟨A2, cap, HF.out, HB.out, hcap, HM.out⟩, Upto.refl _ _⟩
set_option maxRecDepth 100000 in
set_option maxHeartbeats 4000000 in
theorem rstep_mayn (k : Nat) (op x1 x2 x3 v m wh : Int) (hF : FrB M w b o k r bk) (hi : InsAt w bc off l) (hlen : l.length ≤ 1000000) (hk : k < l.length) (hx : l[k] = ⟨op, x1, x2, x3, v, m, wh⟩) (hv : rightF ⟨op, x1, x2, x3, v, 0, 0⟩ l.length (op != 22) = false) :
    Calls Tryd.prog 11 #[.pointer (some ⟨b, o, none⟩), .slice (some ⟨bc, off, none⟩) l.length ccap, mv] w (RStepPost M w b o 3 k r bk) := by
  have HF0 := Lib.hid hF
  obtain ⟨A2, cap, hFr, hB, hcap, hM⟩ := hF
  have h0 := hFr.pc
  obtain ⟨c0, c1, c2, c3, c4, c5, c6⟩ := hi k hk
  rw [hx] at c0 c1 c2 c3 c4 c5 c6
  have lb0 := World.block_lt_of_cell? _ _ h0
  have lb1 := World.block_lt_of_cell? _ _ c0
  have h1 : (k : Int) < (l.length : Int) := by omega
  have h2 : (0 : Int) ≤ (k : Int) := by omega
  have HV := Lib.hid hv
  have HF := Lib.hid hFr
  have HB := Lib.hid hB
  have HM := Lib.hid hM
  clear hFr hB hM hv hx hi
  simp only at c0 c1 c2 c3 c4 c5 c6
  unfold RStepPost
  by_cases h22 : op = 22
  · subst h22
    have HV := Lib.hid (show rightF ⟨22, x1, x2, x3, v, 0, 0⟩ l.length false = false from HV.out)
    go_enter Tryd.func11, Tryd.ntmps11
    go_wp2_with (first
      | (go_at_call 33; refine (right_any ⟨22, x1, x2, x3, v, 0, 0⟩ l.length _ (by omega) (by omega) _).mono ?_; rintro e w1 ⟨rfl, hb⟩; rw [HV.out]
         have hX : Ext w w1 := ((ext1 w _).alloc (by simp) _).trans (hb.mono (by simp; omega))
         have d0 := (hX.cell (p := ⟨b, o, none⟩) lb0).trans h0
         have t0 : w1.cell? ⟨w.heap.size, 0, none⟩ = some (.int .i64 22) := (hb.cell (p := ⟨w.heap.size, 0, none⟩) (by simp <;> omega)).trans (by simp)
         have t1 : w1.cell? ⟨w.heap.size, 1, none⟩ = some (.int .i64 x1) := (hb.cell (p := ⟨w.heap.size, 1, none⟩) (by simp <;> omega)).trans (by simp)
         have t2 : w1.cell? ⟨w.heap.size, 2, none⟩ = some (.int .i64 x2) := (hb.cell (p := ⟨w.heap.size, 2, none⟩) (by simp <;> omega)).trans (by simp)
         have t3 : w1.cell? ⟨w.heap.size, 3, none⟩ = some (.int .i64 x3) := (hb.cell (p := ⟨w.heap.size, 3, none⟩) (by simp <;> omega)).trans (by simp)
         have t4 : w1.cell? ⟨w.heap.size, 4, none⟩ = some (.int .u64 v) := (hb.cell (p := ⟨w.heap.size, 4, none⟩) (by simp <;> omega)).trans (by simp)
         have t5 : w1.cell? ⟨w.heap.size, 5, none⟩ = some (.int .i64 m) := (hb.cell (p := ⟨w.heap.size, 5, none⟩) (by simp <;> omega)).trans (by simp)
         have t6 : w1.cell? ⟨w.heap.size, 6, none⟩ = some (.int .i64 wh) := (hb.cell (p := ⟨w.heap.size, 6, none⟩) (by simp <;> omega)).trans (by simp)
         have hsz1 : w.heap.size < w1.heap.size := World.block_lt_of_cell? _ _ t0
         have X1 := Lib.hid hX
         clear hb hX h0))
    go_ret2
    exact ⟨rfl, HF0.out.ext X1.out, Upto.of_ext X1.out⟩
  · have hne : (op != 22) = true := by simpa using h22
    have HV := Lib.hid (show rightF ⟨op, x1, x2, x3, v, 0, 0⟩ l.length true = false by have h := HV.out; rw [hne] at h; exact h)
    clear h22
    go_enter Tryd.func11, Tryd.ntmps11
    go_wp2_with (first
      | (go_at_call 33; refine (right_any ⟨op, x1, x2, x3, v, 0, 0⟩ l.length _ (by omega) (by omega) _).mono ?_; rintro e w1 ⟨rfl, hb⟩; rw [HV.out]
         have hX : Ext w w1 := ((ext1 w _).alloc (by simp) _).trans (hb.mono (by simp; omega))
         have d0 := (hX.cell (p := ⟨b, o, none⟩) lb0).trans h0
         have t0 : w1.cell? ⟨w.heap.size, 0, none⟩ = some (.int .i64 op) := (hb.cell (p := ⟨w.heap.size, 0, none⟩) (by simp <;> omega)).trans (by simp)
         have t1 : w1.cell? ⟨w.heap.size, 1, none⟩ = some (.int .i64 x1) := (hb.cell (p := ⟨w.heap.size, 1, none⟩) (by simp <;> omega)).trans (by simp)
         have t2 : w1.cell? ⟨w.heap.size, 2, none⟩ = some (.int .i64 x2) := (hb.cell (p := ⟨w.heap.size, 2, none⟩) (by simp <;> omega)).trans (by simp)
         have t3 : w1.cell? ⟨w.heap.size, 3, none⟩ = some (.int .i64 x3) := (hb.cell (p := ⟨w.heap.size, 3, none⟩) (by simp <;> omega)).trans (by simp)
         have t4 : w1.cell? ⟨w.heap.size, 4, none⟩ = some (.int .u64 v) := (hb.cell (p := ⟨w.heap.size, 4, none⟩) (by simp <;> omega)).trans (by simp)
         have t5 : w1.cell? ⟨w.heap.size, 5, none⟩ = some (.int .i64 m) := (hb.cell (p := ⟨w.heap.size, 5, none⟩) (by simp <;> omega)).trans (by simp)
         have t6 : w1.cell? ⟨w.heap.size, 6, none⟩ = some (.int .i64 wh) := (hb.cell (p := ⟨w.heap.size, 6, none⟩) (by simp <;> omega)).trans (by simp)
         have hsz1 : w.heap.size < w1.heap.size := World.block_lt_of_cell? _ _ t0
         have X1 := Lib.hid hX
         clear hb hX h0))
    go_ret2
    exact ⟨rfl, HF0.out.ext X1.out, Upto.of_ext X1.out⟩
set_option maxRecDepth 100000 in
set_option maxHeartbeats 8000000 in
theorem rstep_away (k : Nat) (op x1 x2 x3 v m wh : Int) (hF : FrB M w b o k r bk) (hi : InsAt w bc off l) (hlen : l.length ≤ 1000000) (hk : k < l.length) (hx : l[k] = ⟨op, x1, x2, x3, v, m, wh⟩) (hv : rightF ⟨op, x1, x2, x3, v, 0, 0⟩ l.length (op != 22) = true) (hop : 22 ≤ op) :
    Calls Tryd.prog 11 #[.pointer (some ⟨b, o, none⟩), .slice (some ⟨bc, off, none⟩) l.length ccap, mv] w (RStepPost M w b o 1 k r bk) := by
  have HF0 := Lib.hid hF
  obtain ⟨A2, cap, hFr, hB, hcap, hM⟩ := hF
  have h0 := hFr.pc
  obtain ⟨c0, c1, c2, c3, c4, c5, c6⟩ := hi k hk
  rw [hx] at c0 c1 c2 c3 c4 c5 c6
  have lb0 := World.block_lt_of_cell? _ _ h0
  have lb1 := World.block_lt_of_cell? _ _ c0
  have h1 : (k : Int) < (l.length : Int) := by omega
  have h2 : (0 : Int) ≤ (k : Int) := by omega
  have HV := Lib.hid hv
  have HF := Lib.hid hFr
  have HB := Lib.hid hB
  have HM := Lib.hid hM
  clear hFr hB hM hv hx hi
  simp only at c0 c1 c2 c3 c4 c5 c6
  unfold RStepPost
  by_cases h22 : op = 22
  · subst h22
    have HV := Lib.hid (show rightF ⟨22, x1, x2, x3, v, 0, 0⟩ l.length false = true from HV.out)
    go_enter Tryd.func11, Tryd.ntmps11
    go_wp2_with (first
      | (go_at_call 33; refine (right_any ⟨22, x1, x2, x3, v, 0, 0⟩ l.length _ (by omega) (by omega) _).mono ?_; rintro e w1 ⟨rfl, hb⟩; rw [HV.out]
         have hX : Ext w w1 := ((ext1 w _).alloc (by simp) _).trans (hb.mono (by simp; omega))
         have d0 := (hX.cell (p := ⟨b, o, none⟩) lb0).trans h0
         have t0 : w1.cell? ⟨w.heap.size, 0, none⟩ = some (.int .i64 22) := (hb.cell (p := ⟨w.heap.size, 0, none⟩) (by simp <;> omega)).trans (by simp)
         have t1 : w1.cell? ⟨w.heap.size, 1, none⟩ = some (.int .i64 x1) := (hb.cell (p := ⟨w.heap.size, 1, none⟩) (by simp <;> omega)).trans (by simp)
         have t2 : w1.cell? ⟨w.heap.size, 2, none⟩ = some (.int .i64 x2) := (hb.cell (p := ⟨w.heap.size, 2, none⟩) (by simp <;> omega)).trans (by simp)
         have t3 : w1.cell? ⟨w.heap.size, 3, none⟩ = some (.int .i64 x3) := (hb.cell (p := ⟨w.heap.size, 3, none⟩) (by simp <;> omega)).trans (by simp)
         have t4 : w1.cell? ⟨w.heap.size, 4, none⟩ = some (.int .u64 v) := (hb.cell (p := ⟨w.heap.size, 4, none⟩) (by simp <;> omega)).trans (by simp)
         have t5 : w1.cell? ⟨w.heap.size, 5, none⟩ = some (.int .i64 m) := (hb.cell (p := ⟨w.heap.size, 5, none⟩) (by simp <;> omega)).trans (by simp)
         have t6 : w1.cell? ⟨w.heap.size, 6, none⟩ = some (.int .i64 wh) := (hb.cell (p := ⟨w.heap.size, 6, none⟩) (by simp <;> omega)).trans (by simp)
         have hsz1 : w.heap.size < w1.heap.size := World.block_lt_of_cell? _ _ t0
         have X1 := Lib.hid hX
         clear hb hX h0))
    go_ret2
    exact ⟨rfl, HF0.out.ext X1.out, Upto.of_ext X1.out⟩
  · have hne : (op != 22) = true := by simpa using h22
    have HV := Lib.hid (show rightF ⟨op, x1, x2, x3, v, 0, 0⟩ l.length true = true by have h := HV.out; rw [hne] at h; exact h)
    have g1 : (op == 1) = false := beq_eq_false_iff_ne.2 (by omega)
    have g2 : (op == 2) = false := beq_eq_false_iff_ne.2 (by omega)
    have g3 : (op == 3) = false := beq_eq_false_iff_ne.2 (by omega)
    have g4 : (op == 4) = false := beq_eq_false_iff_ne.2 (by omega)
    have g5 : (op == 5) = false := beq_eq_false_iff_ne.2 (by omega)
    have g6 : (op == 6) = false := beq_eq_false_iff_ne.2 (by omega)
    have g7 : (op == 7) = false := beq_eq_false_iff_ne.2 (by omega)
    have g8 : (op == 8) = false := beq_eq_false_iff_ne.2 (by omega)
    have g9 : (op == 9) = false := beq_eq_false_iff_ne.2 (by omega)
    have g10 : (op == 10) = false := beq_eq_false_iff_ne.2 (by omega)
    have g11 : (op == 11) = false := beq_eq_false_iff_ne.2 (by omega)
    have g12 : (op == 12) = false := beq_eq_false_iff_ne.2 (by omega)
    have g13 : (op == 13) = false := beq_eq_false_iff_ne.2 (by omega)
    have g14 : (op == 14) = false := beq_eq_false_iff_ne.2 (by omega)
    have g15 : (op == 15) = false := beq_eq_false_iff_ne.2 (by omega)
    have g16 : (op == 16) = false := beq_eq_false_iff_ne.2 (by omega)
    have g17 : (op == 17) = false := beq_eq_false_iff_ne.2 (by omega)
    have g18 : (op == 18) = false := beq_eq_false_iff_ne.2 (by omega)
    have g19 : (op == 19) = false := beq_eq_false_iff_ne.2 (by omega)
    have g20 : (op == 20) = false := beq_eq_false_iff_ne.2 (by omega)
    have g21 : (op == 21) = false := beq_eq_false_iff_ne.2 (by omega)
    clear h22
    go_enter Tryd.func11, Tryd.ntmps11
    go_wp2_with (first
      | (go_at_call 33; refine (right_any ⟨op, x1, x2, x3, v, 0, 0⟩ l.length _ (by omega) (by omega) _).mono ?_; rintro e w1 ⟨rfl, hb⟩; rw [HV.out]
         have hX : Ext w w1 := ((ext1 w _).alloc (by simp) _).trans (hb.mono (by simp; omega))
         have d0 := (hX.cell (p := ⟨b, o, none⟩) lb0).trans h0
         have t0 : w1.cell? ⟨w.heap.size, 0, none⟩ = some (.int .i64 op) := (hb.cell (p := ⟨w.heap.size, 0, none⟩) (by simp <;> omega)).trans (by simp)
         have t1 : w1.cell? ⟨w.heap.size, 1, none⟩ = some (.int .i64 x1) := (hb.cell (p := ⟨w.heap.size, 1, none⟩) (by simp <;> omega)).trans (by simp)
         have t2 : w1.cell? ⟨w.heap.size, 2, none⟩ = some (.int .i64 x2) := (hb.cell (p := ⟨w.heap.size, 2, none⟩) (by simp <;> omega)).trans (by simp)
         have t3 : w1.cell? ⟨w.heap.size, 3, none⟩ = some (.int .i64 x3) := (hb.cell (p := ⟨w.heap.size, 3, none⟩) (by simp <;> omega)).trans (by simp)
         have t4 : w1.cell? ⟨w.heap.size, 4, none⟩ = some (.int .u64 v) := (hb.cell (p := ⟨w.heap.size, 4, none⟩) (by simp <;> omega)).trans (by simp)
         have t5 : w1.cell? ⟨w.heap.size, 5, none⟩ = some (.int .i64 m) := (hb.cell (p := ⟨w.heap.size, 5, none⟩) (by simp <;> omega)).trans (by simp)
         have t6 : w1.cell? ⟨w.heap.size, 6, none⟩ = some (.int .i64 wh) := (hb.cell (p := ⟨w.heap.size, 6, none⟩) (by simp <;> omega)).trans (by simp)
         have hsz1 : w.heap.size < w1.heap.size := World.block_lt_of_cell? _ _ t0
         have X1 := Lib.hid hX
         clear hb hX h0))
    go_ret2
    exact ⟨rfl, HF0.out.ext X1.out, Upto.of_ext X1.out⟩
set_option maxRecDepth 100000 in
set_option maxHeartbeats 8000000 in
theorem rstep_set (k : Nat) (x1 x2 x3 v m wh : Int) (hF : FrB M w b o k r bk) (hi : InsAt w bc off l) (hlen : l.length ≤ 1000000) (hk : k < l.length) (hx : l[k] = ⟨1, x1, x2, x3, v, m, wh⟩) (hv : rightF ⟨1, x1, x2, x3, v, 0, 0⟩ l.length true = true) (ha0 : 0 ≤ x1) (ha1 : x1 < 32) (hMb : M b) :
    Calls Tryd.prog 11 #[.pointer (some ⟨b, o, none⟩), .slice (some ⟨bc, off, none⟩) l.length ccap, mv] w (RStepPost M w b o 0 (k + 1) (r.set x1.toNat v) bk) := by
  have HF0 := Lib.hid hF
  obtain ⟨A2, cap, hFr, hB, hcap, hM⟩ := hF
  have h0 := hFr.pc
  obtain ⟨c0, c1, c2, c3, c4, c5, c6⟩ := hi k hk
  rw [hx] at c0 c1 c2 c3 c4 c5 c6
  have lb0 := World.block_lt_of_cell? _ _ h0
  have lb1 := World.block_lt_of_cell? _ _ c0
  have h1 : (k : Int) < (l.length : Int) := by omega
  have h2 : (0 : Int) ≤ (k : Int) := by omega
  have HV := Lib.hid hv
  have HF := Lib.hid hFr
  have HB := Lib.hid hB
  have HM := Lib.hid hM
  clear hFr hB hM hv hx hi
  simp only at c0 c1 c2 c3 c4 c5 c6
  unfold RStepPost FrB
  go_enter Tryd.func11, Tryd.ntmps11
  go_upto_region 12 with (first
      | (go_at_call 33; refine (right_any ⟨1, x1, x2, x3, v, 0, 0⟩ l.length _ (by omega) (by omega) _).mono ?_; rintro e w1 ⟨rfl, hb⟩; rw [HV.out]
         have hX : Ext w w1 := ((ext1 w _).alloc (by simp) _).trans (hb.mono (by simp; omega))
         have d0 := (hX.cell (p := ⟨b, o, none⟩) lb0).trans h0
         have t0 : w1.cell? ⟨w.heap.size, 0, none⟩ = some (.int .i64 1) := (hb.cell (p := ⟨w.heap.size, 0, none⟩) (by simp <;> omega)).trans (by simp)
         have t1 : w1.cell? ⟨w.heap.size, 1, none⟩ = some (.int .i64 x1) := (hb.cell (p := ⟨w.heap.size, 1, none⟩) (by simp <;> omega)).trans (by simp)
         have t2 : w1.cell? ⟨w.heap.size, 2, none⟩ = some (.int .i64 x2) := (hb.cell (p := ⟨w.heap.size, 2, none⟩) (by simp <;> omega)).trans (by simp)
         have t3 : w1.cell? ⟨w.heap.size, 3, none⟩ = some (.int .i64 x3) := (hb.cell (p := ⟨w.heap.size, 3, none⟩) (by simp <;> omega)).trans (by simp)
         have t4 : w1.cell? ⟨w.heap.size, 4, none⟩ = some (.int .u64 v) := (hb.cell (p := ⟨w.heap.size, 4, none⟩) (by simp <;> omega)).trans (by simp)
         have t5 : w1.cell? ⟨w.heap.size, 5, none⟩ = some (.int .i64 m) := (hb.cell (p := ⟨w.heap.size, 5, none⟩) (by simp <;> omega)).trans (by simp)
         have t6 : w1.cell? ⟨w.heap.size, 6, none⟩ = some (.int .i64 wh) := (hb.cell (p := ⟨w.heap.size, 6, none⟩) (by simp <;> omega)).trans (by simp)
         have hsz1 : w.heap.size < w1.heap.size := World.block_lt_of_cell? _ _ t0
         have X1 := Lib.hid hX
         clear hb hX h0))
  have hr1 := (HF.out.ext X1.out).r x1.toNat (by omega)
  have hf1 := (HF.out.ext X1.out).fz (1 + x1.toNat) (by omega)
  rw [← Nat.add_assoc] at hf1
  have hbn : b ≠ w.heap.size := by omega
  clear t0 t2 t3 t5 t6 c0 c1 c2 c3 c4 c5 c6
  go_region
  have hF4 := (HF.out.ext X1.out).setR x1.toNat (by omega) v
  have p4 := hF4.pc
  have z4 := hF4.fz0
  have F4 := Lib.hid hF4
  clear hF4 hr1 hf1 t1 t4
  go_wp2_with fail
  go_ret2
  exact ⟨rfl, ⟨A2, cap, (F4.out.setPc _).ext (Below.refl _ _).drew, HB.out.upto (S := (· = b)) ((((Upto.of_ext X1.out).setB _ _).setB _ _).drew) (fun hn a e hs => HM.out hn a e (hs ▸ hMb)), hcap, HM.out⟩, (((Upto.of_ext X1.out).setB _ _).setB _ _).drew⟩
set_option maxRecDepth 100000 in
set_option maxHeartbeats 8000000 in
theorem rstep_mov (k : Nat) (x1 x2 x3 v m wh : Int) (hF : FrB M w b o k r bk) (hi : InsAt w bc off l) (hlen : l.length ≤ 1000000) (hk : k < l.length) (hx : l[k] = ⟨2, x1, x2, x3, v, m, wh⟩) (hv : rightF ⟨2, x1, x2, x3, v, 0, 0⟩ l.length true = true) (ha0 : 0 ≤ x1) (ha1 : x1 < 32) (hb0 : 0 ≤ x2) (hb1 : x2 < 32) (hMb : M b) :
    Calls Tryd.prog 11 #[.pointer (some ⟨b, o, none⟩), .slice (some ⟨bc, off, none⟩) l.length ccap, mv] w (RStepPost M w b o 0 (k + 1) (r.set x1.toNat (r.getD x2.toNat 0)) bk) := by
  have HF0 := Lib.hid hF
  obtain ⟨A2, cap, hFr, hB, hcap, hM⟩ := hF
  have h0 := hFr.pc
  obtain ⟨c0, c1, c2, c3, c4, c5, c6⟩ := hi k hk
  rw [hx] at c0 c1 c2 c3 c4 c5 c6
  have lb0 := World.block_lt_of_cell? _ _ h0
  have lb1 := World.block_lt_of_cell? _ _ c0
  have h1 : (k : Int) < (l.length : Int) := by omega
  have h2 : (0 : Int) ≤ (k : Int) := by omega
  have HV := Lib.hid hv
  have HF := Lib.hid hFr
  have HB := Lib.hid hB
  have HM := Lib.hid hM
  clear hFr hB hM hv hx hi
  simp only at c0 c1 c2 c3 c4 c5 c6
  unfold RStepPost FrB
  go_enter Tryd.func11, Tryd.ntmps11
  go_upto_region 14 with (first
      | (go_at_call 33; refine (right_any ⟨2, x1, x2, x3, v, 0, 0⟩ l.length _ (by omega) (by omega) _).mono ?_; rintro e w1 ⟨rfl, hb⟩; rw [HV.out]
         have hX : Ext w w1 := ((ext1 w _).alloc (by simp) _).trans (hb.mono (by simp; omega))
         have d0 := (hX.cell (p := ⟨b, o, none⟩) lb0).trans h0
         have t0 : w1.cell? ⟨w.heap.size, 0, none⟩ = some (.int .i64 2) := (hb.cell (p := ⟨w.heap.size, 0, none⟩) (by simp <;> omega)).trans (by simp)
         have t1 : w1.cell? ⟨w.heap.size, 1, none⟩ = some (.int .i64 x1) := (hb.cell (p := ⟨w.heap.size, 1, none⟩) (by simp <;> omega)).trans (by simp)
         have t2 : w1.cell? ⟨w.heap.size, 2, none⟩ = some (.int .i64 x2) := (hb.cell (p := ⟨w.heap.size, 2, none⟩) (by simp <;> omega)).trans (by simp)
         have t3 : w1.cell? ⟨w.heap.size, 3, none⟩ = some (.int .i64 x3) := (hb.cell (p := ⟨w.heap.size, 3, none⟩) (by simp <;> omega)).trans (by simp)
         have t4 : w1.cell? ⟨w.heap.size, 4, none⟩ = some (.int .u64 v) := (hb.cell (p := ⟨w.heap.size, 4, none⟩) (by simp <;> omega)).trans (by simp)
         have t5 : w1.cell? ⟨w.heap.size, 5, none⟩ = some (.int .i64 m) := (hb.cell (p := ⟨w.heap.size, 5, none⟩) (by simp <;> omega)).trans (by simp)
         have t6 : w1.cell? ⟨w.heap.size, 6, none⟩ = some (.int .i64 wh) := (hb.cell (p := ⟨w.heap.size, 6, none⟩) (by simp <;> omega)).trans (by simp)
         have hsz1 : w.heap.size < w1.heap.size := World.block_lt_of_cell? _ _ t0
         have X1 := Lib.hid hX
         clear hb hX h0))
  have hr1 := (HF.out.ext X1.out).r x1.toNat (by omega)
  have hr2 := (HF.out.ext X1.out).r x2.toNat (by omega)
  have hf1 := (HF.out.ext X1.out).fz (1 + x1.toNat) (by omega)
  rw [← Nat.add_assoc] at hf1
  have hbn : b ≠ w.heap.size := by omega
  clear t0 t3 t4 t5 t6 c0 c1 c2 c3 c4 c5 c6
  generalize hu : r.getD x2.toNat 0 = u at hr2
  have HU := Lib.hid hu
  clear hu
  go_region
  have hF4 := (HF.out.ext X1.out).setR x1.toNat (by omega) u
  have p4 := hF4.pc
  have z4 := hF4.fz0
  have F4 := Lib.hid hF4
  clear hF4 hr1 hr2 hf1 t1 t2
  go_wp2_with fail
  go_ret2
  exact ⟨rfl, ⟨A2, cap, by rw [HU.out]; exact (F4.out.setPc _).ext (Below.refl _ _).drew, HB.out.upto (S := (· = b)) ((((Upto.of_ext X1.out).setB _ _).setB _ _).drew) (fun hn a e hs => HM.out hn a e (hs ▸ hMb)), hcap, HM.out⟩, (((Upto.of_ext X1.out).setB _ _).setB _ _).drew⟩
set_option maxRecDepth 100000 in
set_option maxHeartbeats 8000000 in
theorem rstep_jmp (k : Nat) (x1 x2 x3 v m wh : Int) (hF : FrB M w b o k r bk) (hi : InsAt w bc off l) (hlen : l.length ≤ 1000000) (hk : k < l.length) (hx : l[k] = ⟨12, x1, x2, x3, v, m, wh⟩) (hv : rightF ⟨12, x1, x2, x3, v, 0, 0⟩ l.length true = true) (hv0 : 0 ≤ v) (hv1 : v ≤ 1000000000000) (hMb : M b) :
    Calls Tryd.prog 11 #[.pointer (some ⟨b, o, none⟩), .slice (some ⟨bc, off, none⟩) l.length ccap, mv] w (RStepPost M w b o 0 v r bk) := by
  have HF0 := Lib.hid hF
  obtain ⟨A2, cap, hFr, hB, hcap, hM⟩ := hF
  have h0 := hFr.pc
  obtain ⟨c0, c1, c2, c3, c4, c5, c6⟩ := hi k hk
  rw [hx] at c0 c1 c2 c3 c4 c5 c6
  have lb0 := World.block_lt_of_cell? _ _ h0
  have lb1 := World.block_lt_of_cell? _ _ c0
  have h1 : (k : Int) < (l.length : Int) := by omega
  have h2 : (0 : Int) ≤ (k : Int) := by omega
  have HV := Lib.hid hv
  have HF := Lib.hid hFr
  have HB := Lib.hid hB
  have HM := Lib.hid hM
  clear hFr hB hM hv hx hi
  simp only at c0 c1 c2 c3 c4 c5 c6
  unfold RStepPost FrB
  have hz0 : ∀ W, Ext w W → W.frozen? ⟨b, o, none⟩ = false := fun W hX => (HF.out.ext hX).fz0
  have HZ := Lib.hid hz0
  clear hz0
  go_enter Tryd.func11, Tryd.ntmps11
  go_wp2_with (first
      | (go_at_call 33; refine (right_any ⟨12, x1, x2, x3, v, 0, 0⟩ l.length _ (by omega) (by omega) _).mono ?_; rintro e w1 ⟨rfl, hb⟩; rw [HV.out]
         have hX : Ext w w1 := ((ext1 w _).alloc (by simp) _).trans (hb.mono (by simp; omega))
         have d0 := (hX.cell (p := ⟨b, o, none⟩) lb0).trans h0
         have t0 : w1.cell? ⟨w.heap.size, 0, none⟩ = some (.int .i64 12) := (hb.cell (p := ⟨w.heap.size, 0, none⟩) (by simp <;> omega)).trans (by simp)
         have t1 : w1.cell? ⟨w.heap.size, 1, none⟩ = some (.int .i64 x1) := (hb.cell (p := ⟨w.heap.size, 1, none⟩) (by simp <;> omega)).trans (by simp)
         have t2 : w1.cell? ⟨w.heap.size, 2, none⟩ = some (.int .i64 x2) := (hb.cell (p := ⟨w.heap.size, 2, none⟩) (by simp <;> omega)).trans (by simp)
         have t3 : w1.cell? ⟨w.heap.size, 3, none⟩ = some (.int .i64 x3) := (hb.cell (p := ⟨w.heap.size, 3, none⟩) (by simp <;> omega)).trans (by simp)
         have t4 : w1.cell? ⟨w.heap.size, 4, none⟩ = some (.int .u64 v) := (hb.cell (p := ⟨w.heap.size, 4, none⟩) (by simp <;> omega)).trans (by simp)
         have t5 : w1.cell? ⟨w.heap.size, 5, none⟩ = some (.int .i64 m) := (hb.cell (p := ⟨w.heap.size, 5, none⟩) (by simp <;> omega)).trans (by simp)
         have t6 : w1.cell? ⟨w.heap.size, 6, none⟩ = some (.int .i64 wh) := (hb.cell (p := ⟨w.heap.size, 6, none⟩) (by simp <;> omega)).trans (by simp)
         have hsz1 : w.heap.size < w1.heap.size := World.block_lt_of_cell? _ _ t0
         have z0 := HZ.out w1 hX
         have X1 := Lib.hid hX
         clear hb hX h0))
  go_ret2
  exact ⟨rfl, ⟨A2, cap, (HF.out.ext X1.out).setPc _, HB.out.upto (S := (· = b)) ((Upto.of_ext X1.out).setB _ _) (fun hn a e hs => HM.out hn a e (hs ▸ hMb)), hcap, HM.out⟩, (Upto.of_ext X1.out).setB _ _⟩
set_option maxRecDepth 100000 in
set_option maxHeartbeats 8000000 in
theorem rstep_cond13 (k : Nat) (x1 x2 x3 v m wh : Int) (hF : FrB M w b o k r bk) (hi : InsAt w bc off l) (hlen : l.length ≤ 1000000) (hk : k < l.length) (hx : l[k] = ⟨13, x1, x2, x3, v, m, wh⟩) (hv : rightF ⟨13, x1, x2, x3, v, 0, 0⟩ l.length true = true) (hv0 : 0 ≤ v) (hv1 : v ≤ 1000000000000) (ha0 : 0 ≤ x1) (ha1 : x1 < 32) (hMb : M b) :
    Calls Tryd.prog 11 #[.pointer (some ⟨b, o, none⟩), .slice (some ⟨bc, off, none⟩) l.length ccap, mv] w (RStepPost M w b o 0 (if jumps 13 (r.getD x1.toNat 0) then v else k + 1) r bk) := by
  have HF0 := Lib.hid hF
  obtain ⟨A2, cap, hFr, hB, hcap, hM⟩ := hF
  have h0 := hFr.pc
  obtain ⟨c0, c1, c2, c3, c4, c5, c6⟩ := hi k hk
  rw [hx] at c0 c1 c2 c3 c4 c5 c6
  have lb0 := World.block_lt_of_cell? _ _ h0
  have lb1 := World.block_lt_of_cell? _ _ c0
  have h1 : (k : Int) < (l.length : Int) := by omega
  have h2 : (0 : Int) ≤ (k : Int) := by omega
  have HV := Lib.hid hv
  have HF := Lib.hid hFr
  have HB := Lib.hid hB
  have HM := Lib.hid hM
  clear hFr hB hM hv hx hi
  simp only at c0 c1 c2 c3 c4 c5 c6
  have hr := HF.out.r x1.toNat (by omega)
  have HZ := Lib.hid (show ∀ W, Ext w W → W.frozen? ⟨b, o, none⟩ = false from fun W hX => (HF.out.ext hX).fz0)
  unfold RStepPost FrB jumps
  generalize r.getD x1.toNat 0 = u at hr ⊢
  have hdec : ((u == 0) = true) ∨ ((u == 0) = false) := by cases (u == 0) <;> simp
  rcases hdec with hu | hu
  all_goals
    rw [hu]
    first | rw [if_pos (by decide)] | rw [if_neg (by decide)]
    go_enter Tryd.func11, Tryd.ntmps11
    go_upto_region 29 with (first
      | (go_at_call 33; refine (right_any ⟨13, x1, x2, x3, v, 0, 0⟩ l.length _ (by omega) (by omega) _).mono ?_; rintro e w1 ⟨rfl, hb⟩; rw [HV.out]
         have hX : Ext w w1 := ((ext1 w _).alloc (by simp) _).trans (hb.mono (by simp; omega))
         have d0 := (hX.cell (p := ⟨b, o, none⟩) lb0).trans h0
         have t0 : w1.cell? ⟨w.heap.size, 0, none⟩ = some (.int .i64 13) := (hb.cell (p := ⟨w.heap.size, 0, none⟩) (by simp <;> omega)).trans (by simp)
         have t1 : w1.cell? ⟨w.heap.size, 1, none⟩ = some (.int .i64 x1) := (hb.cell (p := ⟨w.heap.size, 1, none⟩) (by simp <;> omega)).trans (by simp)
         have t2 : w1.cell? ⟨w.heap.size, 2, none⟩ = some (.int .i64 x2) := (hb.cell (p := ⟨w.heap.size, 2, none⟩) (by simp <;> omega)).trans (by simp)
         have t3 : w1.cell? ⟨w.heap.size, 3, none⟩ = some (.int .i64 x3) := (hb.cell (p := ⟨w.heap.size, 3, none⟩) (by simp <;> omega)).trans (by simp)
         have t4 : w1.cell? ⟨w.heap.size, 4, none⟩ = some (.int .u64 v) := (hb.cell (p := ⟨w.heap.size, 4, none⟩) (by simp <;> omega)).trans (by simp)
         have t5 : w1.cell? ⟨w.heap.size, 5, none⟩ = some (.int .i64 m) := (hb.cell (p := ⟨w.heap.size, 5, none⟩) (by simp <;> omega)).trans (by simp)
         have t6 : w1.cell? ⟨w.heap.size, 6, none⟩ = some (.int .i64 wh) := (hb.cell (p := ⟨w.heap.size, 6, none⟩) (by simp <;> omega)).trans (by simp)
         have hsz1 : w.heap.size < w1.heap.size := World.block_lt_of_cell? _ _ t0
         have X1 := Lib.hid hX
         clear hb hX h0))
    have hr1 := (X1.out.cell (p := ⟨b, o + 1 + x1.toNat, none⟩) lb0).trans hr
    have z0 := HZ.out w1 X1.out
    clear c0 c1 c2 c3 c4 c5 c6 hr
    go_quiet (fail)
    go_wp2_with fail
    go_ret2
    exact ⟨rfl, ⟨A2, cap, ((HF.out.ext X1.out).drewN _).setPc _, HB.out.upto (S := (· = b)) (((Upto.of_ext X1.out).drewN _).setB _ _) (fun hn a e hs => HM.out hn a e (hs ▸ hMb)), hcap, HM.out⟩, ((Upto.of_ext X1.out).drewN _).setB _ _⟩
set_option maxRecDepth 100000 in
set_option maxHeartbeats 8000000 in
theorem rstep_cond14 (k : Nat) (x1 x2 x3 v m wh : Int) (hF : FrB M w b o k r bk) (hi : InsAt w bc off l) (hlen : l.length ≤ 1000000) (hk : k < l.length) (hx : l[k] = ⟨14, x1, x2, x3, v, m, wh⟩) (hv : rightF ⟨14, x1, x2, x3, v, 0, 0⟩ l.length true = true) (hv0 : 0 ≤ v) (hv1 : v ≤ 1000000000000) (ha0 : 0 ≤ x1) (ha1 : x1 < 32) (hMb : M b) :
    Calls Tryd.prog 11 #[.pointer (some ⟨b, o, none⟩), .slice (some ⟨bc, off, none⟩) l.length ccap, mv] w (RStepPost M w b o 0 (if jumps 14 (r.getD x1.toNat 0) then v else k + 1) r bk) := by
  have HF0 := Lib.hid hF
  obtain ⟨A2, cap, hFr, hB, hcap, hM⟩ := hF
  have h0 := hFr.pc
  obtain ⟨c0, c1, c2, c3, c4, c5, c6⟩ := hi k hk
  rw [hx] at c0 c1 c2 c3 c4 c5 c6
  have lb0 := World.block_lt_of_cell? _ _ h0
  have lb1 := World.block_lt_of_cell? _ _ c0
  have h1 : (k : Int) < (l.length : Int) := by omega
  have h2 : (0 : Int) ≤ (k : Int) := by omega
  have HV := Lib.hid hv
  have HF := Lib.hid hFr
  have HB := Lib.hid hB
  have HM := Lib.hid hM
  clear hFr hB hM hv hx hi
  simp only at c0 c1 c2 c3 c4 c5 c6
  have hr := HF.out.r x1.toNat (by omega)
  have HZ := Lib.hid (show ∀ W, Ext w W → W.frozen? ⟨b, o, none⟩ = false from fun W hX => (HF.out.ext hX).fz0)
  unfold RStepPost FrB jumps
  generalize r.getD x1.toNat 0 = u at hr ⊢
  have hdec : ((u == 0) = true) ∨ ((u == 0) = false) := by cases (u == 0) <;> simp
  rcases hdec with hu | hu
  all_goals
    rw [hu]
    first | rw [if_pos (by decide)] | rw [if_neg (by decide)]
    go_enter Tryd.func11, Tryd.ntmps11
    go_upto_region 29 with (first
      | (go_at_call 33; refine (right_any ⟨14, x1, x2, x3, v, 0, 0⟩ l.length _ (by omega) (by omega) _).mono ?_; rintro e w1 ⟨rfl, hb⟩; rw [HV.out]
         have hX : Ext w w1 := ((ext1 w _).alloc (by simp) _).trans (hb.mono (by simp; omega))
         have d0 := (hX.cell (p := ⟨b, o, none⟩) lb0).trans h0
         have t0 : w1.cell? ⟨w.heap.size, 0, none⟩ = some (.int .i64 14) := (hb.cell (p := ⟨w.heap.size, 0, none⟩) (by simp <;> omega)).trans (by simp)
         have t1 : w1.cell? ⟨w.heap.size, 1, none⟩ = some (.int .i64 x1) := (hb.cell (p := ⟨w.heap.size, 1, none⟩) (by simp <;> omega)).trans (by simp)
         have t2 : w1.cell? ⟨w.heap.size, 2, none⟩ = some (.int .i64 x2) := (hb.cell (p := ⟨w.heap.size, 2, none⟩) (by simp <;> omega)).trans (by simp)
         have t3 : w1.cell? ⟨w.heap.size, 3, none⟩ = some (.int .i64 x3) := (hb.cell (p := ⟨w.heap.size, 3, none⟩) (by simp <;> omega)).trans (by simp)
         have t4 : w1.cell? ⟨w.heap.size, 4, none⟩ = some (.int .u64 v) := (hb.cell (p := ⟨w.heap.size, 4, none⟩) (by simp <;> omega)).trans (by simp)
         have t5 : w1.cell? ⟨w.heap.size, 5, none⟩ = some (.int .i64 m) := (hb.cell (p := ⟨w.heap.size, 5, none⟩) (by simp <;> omega)).trans (by simp)
         have t6 : w1.cell? ⟨w.heap.size, 6, none⟩ = some (.int .i64 wh) := (hb.cell (p := ⟨w.heap.size, 6, none⟩) (by simp <;> omega)).trans (by simp)
         have hsz1 : w.heap.size < w1.heap.size := World.block_lt_of_cell? _ _ t0
         have X1 := Lib.hid hX
         clear hb hX h0))
    have hr1 := (X1.out.cell (p := ⟨b, o + 1 + x1.toNat, none⟩) lb0).trans hr
    have z0 := HZ.out w1 X1.out
    clear c0 c1 c2 c3 c4 c5 c6 hr
    go_quiet (fail)
    go_wp2_with fail
    go_ret2
    exact ⟨rfl, ⟨A2, cap, ((HF.out.ext X1.out).drewN _).setPc _, HB.out.upto (S := (· = b)) (((Upto.of_ext X1.out).drewN _).setB _ _) (fun hn a e hs => HM.out hn a e (hs ▸ hMb)), hcap, HM.out⟩, ((Upto.of_ext X1.out).drewN _).setB _ _⟩
end
end Go.Proofs.YtoncebfhkoabaaaDoor
