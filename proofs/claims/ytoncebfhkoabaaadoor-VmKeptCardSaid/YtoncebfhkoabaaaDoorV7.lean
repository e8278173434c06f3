/- Walk of vm.Step at what reckons. -/
import Derived.Test.YtoncebfhkoabaaaDoorV6
import Derived.Deep.DeepCutAuto
import Derived.Deep.RegionWith
import Derived.Outline
namespace Go.Proofs.YtoncebfhkoabaaaDoor
open Go.RowKit
section
variable (M : Nat → Prop) (b o bc off ccap : Nat) (l : List InsD) (r bk : List Int) (mv : Value) (w : World)
set_option maxRecDepth 100000 in
set_option maxHeartbeats 8000000 in
theorem step_reckon (k : Nat) (op x1 x2 x3 v m wh : Int) (hF : FrB M w b o k r bk) (hi : InsAt w bc off l) (hlen : l.length ≤ 1000000) (hk : k < l.length) (hx : l[k] = ⟨op, x1, x2, x3, v, m, wh⟩) (hv : vmayF ⟨op, x1, x2, x3, v, m, wh⟩ l.length = true)
    (hop : 1 ≤ op ∧ op ≤ 11) (ha0 : 0 ≤ x1) (ha1 : x1 < 32) (hMb : M b) :
    Calls Tryd.prog 10 #[.pointer (some ⟨b, o, none⟩), .slice (some ⟨bc, off, none⟩) l.length ccap, mv] w
      (StepPost M w b o 0 (k + 1) (r.set x1.toNat (reckonF op v (readF r x2) (valueF r ⟨op, x1, x2, x3, v, m, wh⟩))) bk) := by
  obtain ⟨A2, cap, hFr, hB, hcap, hM⟩ := hF
  have h0 := hFr.pc
  obtain ⟨c0, c1, c2, c3, c4, c5, c6⟩ := hi k hk
  rw [hx] at c0 c1 c2 c3 c4 c5 c6
  have lb0 := World.block_lt_of_cell? _ _ h0
  have lb1 := World.block_lt_of_cell? _ _ c0
  have h1 : (k : Int) < (l.length : Int) := by omega
  have h2 : (0 : Int) ≤ (k : Int) := by omega
  have HV := Lib.hid hv
  have HF := Lib.hid hFr
  have HB := Lib.hid hB
  have HM := Lib.hid hM
  clear hFr hB hM hv hx hi
  simp only at c0 c1 c2 c3 c4 c5 c6
  unfold StepPost FrB
  have g1 : (op == 12) = false := beq_eq_false_iff_ne.2 (by omega)
  have g2 : (op == 13) = false := beq_eq_false_iff_ne.2 (by omega)
  have g3 : (op == 14) = false := beq_eq_false_iff_ne.2 (by omega)
  have g4 : (op == 15) = false := beq_eq_false_iff_ne.2 (by omega)
  have g5 : (op == 16) = false := beq_eq_false_iff_ne.2 (by omega)
  have g6 : (op == 17) = false := beq_eq_false_iff_ne.2 (by omega)
  have g7 : (op == 18) = false := beq_eq_false_iff_ne.2 (by omega)
  have g8 : (op == 19) = false := beq_eq_false_iff_ne.2 (by omega)
  have g9 : (op == 20) = false := beq_eq_false_iff_ne.2 (by omega)
  have g10 : (op == 21) = false := beq_eq_false_iff_ne.2 (by omega)
  go_enter Tryd.func10, Tryd.ntmps10
  go_upto_region 23 with (first
      | (go_at_call 26; refine (vmay_any ⟨_, x1, x2, x3, v, m, wh⟩ l.length (by omega) (by omega) _).mono ?_; rintro e w1 ⟨rfl, hb⟩; rw [HV.out]
         have d0 := (hb.cell (p := ⟨b, o, none⟩) lb0).trans h0
         have e0 := (hb.cell (p := ⟨bc, off + k * 7, none⟩) lb1).trans c0
         have e1 := (hb.cell (p := ⟨bc, off + k * 7 + 1, none⟩) lb1).trans c1
         have e2 := (hb.cell (p := ⟨bc, off + k * 7 + 2, none⟩) lb1).trans c2
         have e3 := (hb.cell (p := ⟨bc, off + k * 7 + 3, none⟩) lb1).trans c3
         have e4 := (hb.cell (p := ⟨bc, off + k * 7 + 4, none⟩) lb1).trans c4
         have e5 := (hb.cell (p := ⟨bc, off + k * 7 + 5, none⟩) lb1).trans c5
         have e6 := (hb.cell (p := ⟨bc, off + k * 7 + 6, none⟩) lb1).trans c6
         have X1 := Lib.hid hb; clear hb))
  have hzz : w1.heap.size < (w1.alloc (.cells #[.int .i64 op, .int .i64 x1, .int .i64 x2, .int .i64 x3, .int .u64 v, .int .i64 m, .int .i64 wh] 52)).heap.size := by simp
  have lt1 : b < w1.heap.size := Nat.lt_of_lt_of_le lb0 X1.out.size
  have hE : Ext w (w1.alloc (.cells #[.int .i64 op, .int .i64 x1, .int .i64 x2, .int .i64 x3, .int .u64 v, .int .i64 m, .int .i64 wh] 52)) := X1.out.alloc X1.out.size _
  have hI := ins_in w1 ⟨op, x1, x2, x3, v, m, wh⟩ 0 (by simp)
  generalize hG : w1.alloc (.cells #[.int .i64 op, .int .i64 x1, .int .i64 x2, .int .i64 x3, .int .u64 v, .int .i64 m, .int .i64 wh] 52) = W at hE hI hzz ⊢
  simp only [List.getElem_cons_zero] at hI
  obtain ⟨t0, t1, t2, t3, t4, t5, t6⟩ := hI
  have E := Lib.hid hE
  clear hE hG X1 d0 e0 e1 e2 e3 e4 e5 e6 c0 c1 c2 c3 c4 c5 c6
  simp only [Nat.zero_mul, Nat.zero_add] at t0 t1 t2 t3 t4 t5 t6
  go_upto_if 90 with fail
  go_cut [90] (fun s wx => s = .bool true ∧ wx = W)
  case first =>
    go_wp2_with fail
    all_goals (go_meet; refine ⟨?_, rfl⟩; first | rfl | (refine congrArg Value.bool ?_; simp_all <;> omega))
  case rest =>
    obtain ⟨rfl, rfl⟩ := hcut
    have X := Lib.hid (show Ext w wc.drew from E.out.drew)
    have hbz : b < w1.heap.size := lt1
    have hbn : b ≠ w1.heap.size := by omega
    clear g1 g2 g3 g4 g5 g6 g7 g8 g9 g10 h0 lb1
    go_wp2_with fail
    go_region_held3 (fun w' => w'.cell? ⟨w1.heap.size, 0, none⟩ = some (.int .i64 op) ∧ w'.cell? ⟨w1.heap.size, 1, none⟩ = some (.int .i64 x1) ∧ w'.cell? ⟨w1.heap.size, 2, none⟩ = some (.int .i64 x2) ∧ w'.cell? ⟨w1.heap.size, 3, none⟩ = some (.int .i64 x3) ∧ w'.cell? ⟨w1.heap.size, 4, none⟩ = some (.int .u64 v) ∧ w'.cell? ⟨w1.heap.size, 5, none⟩ = some (.int .i64 m) ∧ w'.cell? ⟨w1.heap.size, 6, none⟩ = some (.int .i64 wh))
     (first | exact ⟨t0, t1, t2, t3, t4, t5, t6⟩ | exact ⟨u0, u1, u2, u3, u4, u5, u6⟩ | exact ⟨v0, v1, v2, v3, v4, v5, v6⟩ | (go_split_ands; refine ⟨?_, ?_, ?_, ?_, ?_, ?_, ?_⟩ <;> (rw [World.cell?_setCell_far _ _ _ _ (by simpa using hbn)]; assumption)))
     (first
      | (go_at_call 31; refine (read_any b o k r A2 bk.length cap _ _ (HF.out.ext X.out)).mono ?_; rintro e w' ⟨rfl, rfl⟩)
      | (go_at_call 32; refine (value_any b o k r A2 bk.length cap ⟨op, x1, x2, x3, v, m, wh⟩ _ (HF.out.ext X.out)).mono ?_; rintro e w2 ⟨rfl, hx2⟩
         have X2 := Lib.hid (X.out.trans (hx2.mono X.out.size))
         have hz2 : w1.heap.size < w2.heap.size := Nat.lt_of_lt_of_le hzz hx2.size
         have u0 := (hx2.cell (p := ⟨w1.heap.size, 0, none⟩) hzz).trans t0
         have u1 := (hx2.cell (p := ⟨w1.heap.size, 1, none⟩) hzz).trans t1
         have u2 := (hx2.cell (p := ⟨w1.heap.size, 2, none⟩) hzz).trans t2
         have u3 := (hx2.cell (p := ⟨w1.heap.size, 3, none⟩) hzz).trans t3
         have u4 := (hx2.cell (p := ⟨w1.heap.size, 4, none⟩) hzz).trans t4
         have u5 := (hx2.cell (p := ⟨w1.heap.size, 5, none⟩) hzz).trans t5
         have u6 := (hx2.cell (p := ⟨w1.heap.size, 6, none⟩) hzz).trans t6
         clear hx2)
      | (go_at_call 30; refine (reckon_any op x1 x2 x3 v m wh _ _ hop _).mono ?_; rintro e w3 ⟨rfl, hx3⟩
         have hx4 : Ext w w3 := X2.out.trans (hx3.mono X2.out.size)
         have v0 := (hx3.cell (p := ⟨w1.heap.size, 0, none⟩) hz2).trans u0
         have v1 := (hx3.cell (p := ⟨w1.heap.size, 1, none⟩) hz2).trans u1
         have v2 := (hx3.cell (p := ⟨w1.heap.size, 2, none⟩) hz2).trans u2
         have v3 := (hx3.cell (p := ⟨w1.heap.size, 3, none⟩) hz2).trans u3
         have v4 := (hx3.cell (p := ⟨w1.heap.size, 4, none⟩) hz2).trans u4
         have v5 := (hx3.cell (p := ⟨w1.heap.size, 5, none⟩) hz2).trans u5
         have v6 := (hx3.cell (p := ⟨w1.heap.size, 6, none⟩) hz2).trans u6
         have hr := (HF.out.ext hx4).r x1.toNat (by omega)
         have hf := (HF.out.ext hx4).fz (1 + x1.toNat) (by omega)
         rw [← Nat.add_assoc] at hf
         have X3 := Lib.hid hx4
         clear hx3 hx4))
    have hF4 := (HF.out.ext X3.out).setR x1.toNat (by omega) (reckonF op v (readF r x2) (valueF r ⟨op, x1, x2, x3, v, m, wh⟩))
    have p4 := hF4.pc
    have z4 := hF4.fz0
    have F4 := Lib.hid hF4
    clear hF4 hr hf
    go_wp2_with fail
    go_ret2
    exact ⟨rfl, ⟨A2, cap, F4.out.setPc _, (HB.out.upto (S := (· = b)) (((Upto.of_ext X3.out).setB _ _).setB _ _) (fun hn a e hs => HM.out hn a e (hs ▸ hMb))), hcap, HM.out⟩, ((Upto.of_ext X3.out).setB _ _).setB _ _⟩
end
end Go.Proofs.YtoncebfhkoabaaaDoor
