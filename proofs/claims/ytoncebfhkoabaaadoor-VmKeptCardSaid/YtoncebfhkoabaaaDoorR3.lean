/- The document's Step: what reckons. -/
import Derived.Test.YtoncebfhkoabaaaDoorR2
import Derived.Test.YtoncebfhkoabaaaDoorQ0
namespace Go.Proofs.YtoncebfhkoabaaaDoor
open Go.RowKit Go.Extern.Stop Go.Stop Go.Extern

section
variable (M : Nat → Prop) (b o bc off ccap : Nat) (l : List InsD) (r bk : List Int) (mv : Value) (w : World)

set_option maxRecDepth 100000 in
set_option maxHeartbeats 8000000 in
theorem rstep_reckon (k : Nat) (op x1 x2 x3 v m wh : Int) (hF : FrB M w b o k r bk) (hi : InsAt w bc off l) (hlen : l.length ≤ 1000000) (hk : k < l.length) (hx : l[k] = ⟨op, x1, x2, x3, v, m, wh⟩) (hv : rightF ⟨op, x1, x2, x3, v, 0, 0⟩ l.length true = true) (hop : 3 ≤ op ∧ op ≤ 11) (ha0 : 0 ≤ x1) (ha1 : x1 < 32) (hb0 : 0 ≤ x2) (hb1 : x2 < 32) (hMb : M b) :
    Calls Tryd.prog 11 #[.pointer (some ⟨b, o, none⟩), .slice (some ⟨bc, off, none⟩) l.length ccap, mv] w (RStepPost M w b o 0 (k + 1) (r.set x1.toNat (reckonF op v (r.getD x2.toNat 0) (valueF r ⟨op, x1, x2, x3, v, m, wh⟩))) bk) := by
  have HF0 := Lib.hid hF
  obtain ⟨A2, cap, hFr, hB, hcap, hM⟩ := hF
  have h0 := hFr.pc
  obtain ⟨c0, c1, c2, c3, c4, c5, c6⟩ := hi k hk
  rw [hx] at c0 c1 c2 c3 c4 c5 c6
  have lb0 := World.block_lt_of_cell? _ _ h0
  have lb1 := World.block_lt_of_cell? _ _ c0
  have h1 : (k : Int) < (l.length : Int) := by omega
  have h2 : (0 : Int) ≤ (k : Int) := by omega
  have HV := Lib.hid hv
  have HF := Lib.hid hFr
  have HB := Lib.hid hB
  have HM := Lib.hid hM
  clear hFr hB hM hv hx hi
  simp only at c0 c1 c2 c3 c4 c5 c6
  unfold RStepPost FrB
  have hne : (op != 22) = true := by simp; omega
  have g1 : (op == 1) = false := beq_eq_false_iff_ne.2 (by omega)
  have g2 : (op == 2) = false := beq_eq_false_iff_ne.2 (by omega)
  have hr2 := HF.out.r x2.toNat (by omega)
  have HZ := Lib.hid (show ∀ W, Ext w W → W.frozen? ⟨b, o + 1 + x1.toNat, none⟩ = false from fun W hX => by have h := (HF.out.ext hX).fz (1 + x1.toNat) (by omega); rw [← Nat.add_assoc] at h; exact h)
  go_enter Tryd.func11, Tryd.ntmps11
  go_upto_region 15 with (first
      | (go_at_call 33; refine (right_any ⟨op, x1, x2, x3, v, 0, 0⟩ l.length _ (by omega) (by omega) _).mono ?_; rintro e w1 ⟨rfl, hb⟩; rw [HV.out]
         have hX : Ext w w1 := ((ext1 w _).alloc (by simp) _).trans (hb.mono (by simp; omega))
         have d0 := (hX.cell (p := ⟨b, o, none⟩) lb0).trans h0
         have t0 : w1.cell? ⟨w.heap.size, 0, none⟩ = some (.int .i64 op) := (hb.cell (p := ⟨w.heap.size, 0, none⟩) (by simp <;> omega)).trans (by simp)
         have t1 : w1.cell? ⟨w.heap.size, 1, none⟩ = some (.int .i64 x1) := (hb.cell (p := ⟨w.heap.size, 1, none⟩) (by simp <;> omega)).trans (by simp)
         have t2 : w1.cell? ⟨w.heap.size, 2, none⟩ = some (.int .i64 x2) := (hb.cell (p := ⟨w.heap.size, 2, none⟩) (by simp <;> omega)).trans (by simp)
         have t3 : w1.cell? ⟨w.heap.size, 3, none⟩ = some (.int .i64 x3) := (hb.cell (p := ⟨w.heap.size, 3, none⟩) (by simp <;> omega)).trans (by simp)
         have t4 : w1.cell? ⟨w.heap.size, 4, none⟩ = some (.int .u64 v) := (hb.cell (p := ⟨w.heap.size, 4, none⟩) (by simp <;> omega)).trans (by simp)
         have t5 : w1.cell? ⟨w.heap.size, 5, none⟩ = some (.int .i64 m) := (hb.cell (p := ⟨w.heap.size, 5, none⟩) (by simp <;> omega)).trans (by simp)
         have t6 : w1.cell? ⟨w.heap.size, 6, none⟩ = some (.int .i64 wh) := (hb.cell (p := ⟨w.heap.size, 6, none⟩) (by simp <;> omega)).trans (by simp)
         have hsz1 : w.heap.size < w1.heap.size := World.block_lt_of_cell? _ _ t0
         have X1 := Lib.hid hX
         clear hb hX h0))
  go_upto_if 82 with fail
  clear c0 c1 c2 c3 c4 c5 c6 g1 g2
  go_cut [82] (fun s wx => s = .bool true ∧ wx = w1)
  case first =>
    go_wp2_with fail
    all_goals (go_meet; refine ⟨?_, rfl⟩; first | rfl | (refine congrArg Value.bool ?_; simp_all <;> omega))
  case rest =>
    obtain ⟨rfl, rfl⟩ := hcut
    have r2 := (X1.out.cell (p := ⟨b, o + 1 + x2.toNat, none⟩) lb0).trans hr2
    generalize hu2 : r.getD x2.toNat 0 = u2 at r2
    have HU2 := Lib.hid hu2
    have lbc : b < wc.heap.size := Nat.lt_of_lt_of_le lb0 X1.out.size
    have hbn : b ≠ w.heap.size := by omega
    clear hr2 hu2
    have k0 := cell_regrown t0
    have k1 := cell_regrown t1
    have k2 := cell_regrown t2
    have k3 := cell_regrown t3
    have k4 := cell_regrown t4
    have k5 := cell_regrown t5
    have k6 := cell_regrown t6
    have k7 := cell_regrown r2
    have XR := Lib.hid (show ∀ d os, Ext w (Go.Sort.grow (redrawn wc d) os) from fun d os => X1.out.trans ((below_regrown wc d os).mono X1.out.size))
    clear t0 t1 t2 t3 t4 t5 t6 r2
    go_wp2_with fail
    refine wp_region_below_tail 19 (by kernel_rfl) (by kernel_rfl) ?_
    simp only [List.take_succ_cons, List.take_zero, List.drop_succ_cons, List.drop_zero]
    repeat (quiet_step (first
      | (go_at_call 35; exact regrown_call (rvalue_any b o k r A2 bk.length cap ⟨op, x1, x2, x3, v, m, wh⟩ _ (HF.out.ext (XR.out _ _))))
      | (go_at_call 34; exact regrown_same (rreckon_any op _ _ v hop _))))
    refine wpQuiet_nil ?_
    intro w2 hw'
    obtain ⟨⟨dq, osq⟩, hw2⟩ := hw'
    have hX2 : Ext w w2 := by rw [hw2]; exact XR.out dq osq
    have rc := (HF.out.ext hX2).r x1.toNat (by omega)
    have rf := HZ.out w2 hX2
    have hF4 := (HF.out.ext hX2).setR x1.toNat (by omega) (reckonF op v u2 (valueF r ⟨op, x1, x2, x3, v, m, wh⟩))
    have p4 := hF4.pc
    have z4 := hF4.fz0
    have F4 := Lib.hid hF4
    have X2 := Lib.hid hX2
    clear hw2 k0 k1 k2 k3 k4 k5 k6 k7 hX2 hF4 d0
    go_wp2_with fail
    go_ret2
    exact ⟨rfl, ⟨A2, cap, by rw [HU2.out]; exact F4.out.setPc _, HB.out.upto (S := (· = b)) (((Upto.of_ext X2.out).setB _ _).setB _ _) (fun hn a e hs => HM.out hn a e (hs ▸ hMb)), hcap, HM.out⟩, ((Upto.of_ext X2.out).setB _ _).setB _ _⟩
end
end Go.Proofs.YtoncebfhkoabaaaDoor
