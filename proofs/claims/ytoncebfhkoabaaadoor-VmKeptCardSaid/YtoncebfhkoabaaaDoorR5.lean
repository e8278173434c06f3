/- The document's Step: an access. -/
import Derived.Test.YtoncebfhkoabaaaDoorR2
import Derived.Deep.RegionHeld3
namespace Go.Proofs.YtoncebfhkoabaaaDoor
open Go.RowKit Go.Extern.Stop Go.Stop Go.Extern

theorem set_getD_self (l : List Int) (k : Nat) (h : k < l.length) : l.set k (l.getD k 0) = l := set_self l k h
/-- What an access of a cell that is there leaves. -/
def RCellPost (M : Nat → Prop) (w : World) (b o : Nat) (pc : Int) (r bk : List Int) (m2 c2 d2 : Nat) (cs ws : List Int) (ct : Int) (e : Ending) (w' : World) : Prop :=
  e = .returned (.tuple #[.int .i64 0, .pointer none]) ∧ FrB M w' b o pc r bk ∧ RMemAt w' m2 c2 d2 cs ws ct ∧ Upto (fun q => q = b ∨ q = m2 ∨ q = c2) w w'
/-- What an access of a cell that is not there leaves. -/
def RMissPost (M : Nat → Prop) (w : World) (b o : Nat) (pc at_ : Int) (r bk : List Int) (e : Ending) (w' : World) : Prop :=
  ∃ v, e = .returned (.tuple #[.int .i64 3, v]) ∧ FailPost w' v (some ([(vmS, pc), (memS, missN at_)], 2)) ∧ FrB M w' b o pc r bk ∧ Ext w w'
section
variable (M : Nat → Prop) (b o bc off ccap : Nat) (l : List InsD) (r bk : List Int) (w : World) (m2 c2 d2 : Nat) (cs ws : List Int) (ct : Int)
set_option maxRecDepth 100000 in
set_option maxHeartbeats 8000000 in
theorem rcell_17 (k kk : Nat) (x1 x2 x3 v m wh : Int) (hF : FrB M w b o k r bk) (hi : InsAt w bc off l) (hlen : l.length ≤ 1000000) (hk : k < l.length) (hx : l[k] = ⟨17, x1, x2, x3, v, m, wh⟩) (hv : rightF ⟨17, x1, x2, x3, v, 0, 0⟩ l.length true = true) (hrm : RMemAt w m2 c2 d2 cs ws ct) (ha0 : 0 ≤ x1) (ha1 : x1 < 32) (hxv : Rng v) (hrr : ∀ i, Rng (r.getD i 0)) (hcr : ∀ i, Rng (cs.getD i 0)) (hkl : kk < cs.length) (hw : ws.getD kk 0 ≠ 0) (hc0 : 0 ≤ ct) (hc1 : ct ≤ 1000000000000000)
    (hat : addressF r ⟨17, x1, x2, x3, v, m, wh⟩ = kk) (hMb : M b) (hMm : M m2) (hMc : M c2) (hbm : b ≠ m2) (hbc : b ≠ c2) (hbd : b ≠ d2) :
    Calls Tryd.prog 11 #[.pointer (some ⟨b, o, none⟩), .slice (some ⟨bc, off, none⟩) l.length ccap, .pointer (some ⟨m2, 0, none⟩)] w (RCellPost M w b o (k + 1) (r.set x1.toNat (cs.getD kk 0)) bk m2 c2 d2 (cs.set kk (newF 0 (ws.getD kk 0) (cs.getD kk 0) (r.getD x1.toNat 0) (r.getD x1.toNat 0))) ws (ct + 1)) := by
  have HF0 := Lib.hid hF
  obtain ⟨A2, cap, hFr, hB, hcap, hM⟩ := hF
  have h0 := hFr.pc
  obtain ⟨c0, c1, c2, c3, c4, c5, c6⟩ := hi k hk
  rw [hx] at c0 c1 c2 c3 c4 c5 c6
  have lb0 := World.block_lt_of_cell? _ _ h0
  have lb1 := World.block_lt_of_cell? _ _ c0
  have h1 : (k : Int) < (l.length : Int) := by omega
  have h2 : (0 : Int) ≤ (k : Int) := by omega
  have HV := Lib.hid hv
  have HF := Lib.hid hFr
  have HB := Lib.hid hB
  have HM := Lib.hid hM
  clear hFr hB hM hv hx hi
  simp only at c0 c1 c2 c3 c4 c5 c6
  have hr := HF.out.r x1.toNat (by omega)
  have HZ := Lib.hid (show ∀ W (S : Nat → Prop), Upto S w W → ¬ S b → W.frozen? ⟨b, o, none⟩ = false ∧ W.frozen? ⟨b, o + 1 + x1.toNat, none⟩ = false from fun W S hX hS => ⟨(HF.out.upto hX hS).fz0, by have h := (HF.out.upto hX hS).fz (1 + x1.toNat) (by omega); rw [← Nat.add_assoc] at h; exact h⟩)
  have HK := Lib.hid hat
  have HR := Lib.hid hrm
  clear hat hrm
  have lm := HR.out.lm
  have lc := HR.out.lc
  have R1 := Lib.hid (hrr x1.toNat)
  have R3 := Lib.hid (hrr x3.toNat)
  have RC := Lib.hid (hcr kk)
  have RV := Lib.hid hxv
  have HW := Lib.hid hw
  have LT := Lib.hid hkl
  clear hrr hcr hxv hw hkl
  unfold RCellPost FrB
  go_enter Tryd.func11, Tryd.ntmps11
  go_upto_region 48 with (first
      | (go_at_call 33; refine (right_any ⟨17, x1, x2, x3, v, 0, 0⟩ l.length _ (by omega) (by omega) _).mono ?_; rintro e w1 ⟨rfl, hb⟩; rw [HV.out]
         have hX : Ext w w1 := ((ext1 w _).alloc (by simp) _).trans (hb.mono (by simp; omega))
         have d0 := (hX.cell (p := ⟨b, o, none⟩) lb0).trans h0
         have t0 : w1.cell? ⟨w.heap.size, 0, none⟩ = some (.int .i64 17) := (hb.cell (p := ⟨w.heap.size, 0, none⟩) (by simp <;> omega)).trans (by simp)
         have t1 : w1.cell? ⟨w.heap.size, 1, none⟩ = some (.int .i64 x1) := (hb.cell (p := ⟨w.heap.size, 1, none⟩) (by simp <;> omega)).trans (by simp)
         have t2 : w1.cell? ⟨w.heap.size, 2, none⟩ = some (.int .i64 x2) := (hb.cell (p := ⟨w.heap.size, 2, none⟩) (by simp <;> omega)).trans (by simp)
         have t3 : w1.cell? ⟨w.heap.size, 3, none⟩ = some (.int .i64 x3) := (hb.cell (p := ⟨w.heap.size, 3, none⟩) (by simp <;> omega)).trans (by simp)
         have t4 : w1.cell? ⟨w.heap.size, 4, none⟩ = some (.int .u64 v) := (hb.cell (p := ⟨w.heap.size, 4, none⟩) (by simp <;> omega)).trans (by simp)
         have t5 : w1.cell? ⟨w.heap.size, 5, none⟩ = some (.int .i64 m) := (hb.cell (p := ⟨w.heap.size, 5, none⟩) (by simp <;> omega)).trans (by simp)
         have t6 : w1.cell? ⟨w.heap.size, 6, none⟩ = some (.int .i64 wh) := (hb.cell (p := ⟨w.heap.size, 6, none⟩) (by simp <;> omega)).trans (by simp)
         have hsz1 : w.heap.size < w1.heap.size := World.block_lt_of_cell? _ _ t0
         have X1 := Lib.hid hX
         clear hb hX h0))
  have r1 := (X1.out.cell (p := ⟨b, o + 1 + x1.toNat, none⟩) lb0).trans hr
  generalize hu : r.getD x1.toNat 0 = u at r1 R1
  have HU := Lib.hid hu
  clear hr hu c0 c1 c2 c3 c4 c5 c6
  have hbn : b ≠ w.heap.size := by omega
  have hmn : m2 ≠ w.heap.size := by omega
  have hcn : c2 ≠ w.heap.size := by omega
  go_quiet (fail)
  have EQ : ∀ p : Addr, (w1.drewN nq).cell? p = w1.cell? p := fun p => by simp
  rw [← EQ] at d0 t0 t1 t2 t3 t4 t5 t6 r1
  have XQn := Lib.hid (show Ext w (w1.drewN nq) from X1.out.trans ⟨rfl, rfl, rfl, Nat.le_refl _, fun _ _ => rfl⟩)
  have hszn : w.heap.size < (w1.drewN nq).heap.size := hsz1
  have lbn : b < (w1.drewN nq).heap.size := Nat.lt_of_lt_of_le lb0 XQn.out.size
  clear EQ X1 hsz1
  generalize w1.drewN nq = W1 at d0 t0 t1 t2 t3 t4 t5 t6 r1 XQn hszn lbn ⊢
  have XQ := Lib.hid XQn.out
  have hszW : w.heap.size < W1.heap.size := hszn
  have lbW : b < W1.heap.size := lbn
  clear XQn hszn lbn
  go_wp2_with fail
  have XD := Lib.hid (show Ext w W1.drew from XQ.out.drew)
  go_region_held3 (fun w' => w'.cell? ⟨w.heap.size, 0, none⟩ = some (.int .i64 17) ∧ w'.cell? ⟨w.heap.size, 1, none⟩ = some (.int .i64 x1) ∧ w'.cell? ⟨w.heap.size, 2, none⟩ = some (.int .i64 x2) ∧ w'.cell? ⟨w.heap.size, 3, none⟩ = some (.int .i64 x3) ∧ w'.cell? ⟨w.heap.size, 4, none⟩ = some (.int .u64 v) ∧ w'.cell? ⟨w.heap.size, 5, none⟩ = some (.int .i64 m) ∧ w'.cell? ⟨w.heap.size, 6, none⟩ = some (.int .i64 wh) ∧ w'.cell? ⟨b, o + 1 + x1.toNat, none⟩ = some (.int .u64 u))
    (first | exact ⟨t0, t1, t2, t3, t4, t5, t6, r1⟩ | exact ⟨y0, y1, y2, y3, y4, y5, y6, y7⟩ | exact ⟨z0, z1, z2, z3, z4, z5, z6, z7⟩)
    (first
      | (go_at_call 36; refine (accessF_any 17 (by omega) _).mono ?_; rintro e w' ⟨rfl, rfl⟩; rw [show kindOf 17 = 0 from rfl])
      | (go_at_call 37; refine (raddress_any b o k r A2 bk.length cap ⟨17, x1, x2, x3, v, m, wh⟩ _ (HF.out.ext XD.out) RV.out.1 RV.out.2).mono ?_; rintro e w5 ⟨rfl, hx5⟩; rw [HK.out]
         have y0 : w5.cell? ⟨w.heap.size, 0, none⟩ = some (.int .i64 17) := (hx5.cell (p := ⟨w.heap.size, 0, none⟩) hszW).trans t0
         have y1 : w5.cell? ⟨w.heap.size, 1, none⟩ = some (.int .i64 x1) := (hx5.cell (p := ⟨w.heap.size, 1, none⟩) hszW).trans t1
         have y2 : w5.cell? ⟨w.heap.size, 2, none⟩ = some (.int .i64 x2) := (hx5.cell (p := ⟨w.heap.size, 2, none⟩) hszW).trans t2
         have y3 : w5.cell? ⟨w.heap.size, 3, none⟩ = some (.int .i64 x3) := (hx5.cell (p := ⟨w.heap.size, 3, none⟩) hszW).trans t3
         have y4 : w5.cell? ⟨w.heap.size, 4, none⟩ = some (.int .u64 v) := (hx5.cell (p := ⟨w.heap.size, 4, none⟩) hszW).trans t4
         have y5 : w5.cell? ⟨w.heap.size, 5, none⟩ = some (.int .i64 m) := (hx5.cell (p := ⟨w.heap.size, 5, none⟩) hszW).trans t5
         have y6 : w5.cell? ⟨w.heap.size, 6, none⟩ = some (.int .i64 wh) := (hx5.cell (p := ⟨w.heap.size, 6, none⟩) hszW).trans t6
         have y7 : w5.cell? ⟨b, o + 1 + x1.toNat, none⟩ = some (.int .u64 u) := (hx5.cell (p := ⟨b, o + 1 + x1.toNat, none⟩) lbW).trans r1
         have X5 := Lib.hid (XD.out.trans (hx5.mono XD.out.size))
         have hsz5 : w.heap.size < w5.heap.size := Nat.lt_of_lt_of_le hszW hx5.size
         clear hx5)
      | (go_at_call 24; refine (rdo_hit m2 c2 d2 cs ws ct _ 0 kk u u (by omega) (HR.out.ext X5.out) LT.out HW.out hc0 hc1 R1.out.1 R1.out.2 R1.out.1 R1.out.2 RC.out).mono ?_; rintro e w6 ⟨rfl, hm6, hu6⟩
         have z0 : w6.cell? ⟨w.heap.size, 0, none⟩ = some (.int .i64 17) := (hu6.cell (p := ⟨w.heap.size, 0, none⟩) hsz5 (by simp only [not_or]; exact ⟨Ne.symm hmn, Ne.symm hcn⟩)).trans y0
         have z1 : w6.cell? ⟨w.heap.size, 1, none⟩ = some (.int .i64 x1) := (hu6.cell (p := ⟨w.heap.size, 1, none⟩) hsz5 (by simp only [not_or]; exact ⟨Ne.symm hmn, Ne.symm hcn⟩)).trans y1
         have z2 : w6.cell? ⟨w.heap.size, 2, none⟩ = some (.int .i64 x2) := (hu6.cell (p := ⟨w.heap.size, 2, none⟩) hsz5 (by simp only [not_or]; exact ⟨Ne.symm hmn, Ne.symm hcn⟩)).trans y2
         have z3 : w6.cell? ⟨w.heap.size, 3, none⟩ = some (.int .i64 x3) := (hu6.cell (p := ⟨w.heap.size, 3, none⟩) hsz5 (by simp only [not_or]; exact ⟨Ne.symm hmn, Ne.symm hcn⟩)).trans y3
         have z4 : w6.cell? ⟨w.heap.size, 4, none⟩ = some (.int .u64 v) := (hu6.cell (p := ⟨w.heap.size, 4, none⟩) hsz5 (by simp only [not_or]; exact ⟨Ne.symm hmn, Ne.symm hcn⟩)).trans y4
         have z5 : w6.cell? ⟨w.heap.size, 5, none⟩ = some (.int .i64 m) := (hu6.cell (p := ⟨w.heap.size, 5, none⟩) hsz5 (by simp only [not_or]; exact ⟨Ne.symm hmn, Ne.symm hcn⟩)).trans y5
         have z6 : w6.cell? ⟨w.heap.size, 6, none⟩ = some (.int .i64 wh) := (hu6.cell (p := ⟨w.heap.size, 6, none⟩) hsz5 (by simp only [not_or]; exact ⟨Ne.symm hmn, Ne.symm hcn⟩)).trans y6
         have z7 : w6.cell? ⟨b, o + 1 + x1.toNat, none⟩ = some (.int .u64 u) := (hu6.cell (p := ⟨b, o + 1 + x1.toNat, none⟩) (Nat.lt_of_lt_of_le lb0 X5.out.size) (by simp only [not_or]; exact ⟨hbm, hbc⟩)).trans y7
         have M6 := Lib.hid hm6
         have HU6 := Lib.hid hu6
         clear hm6 hu6))
  have U6 := Lib.hid (show Upto (fun q => q = b ∨ q = m2 ∨ q = c2) w w6 from (Upto.of_ext X5.out).trans (HU6.out.mono (by rintro q _ (h | h) <;> simp [h])))
  have F6 := Lib.hid (HF.out.upto ((Upto.of_ext X5.out).trans HU6.out) (by simp only [not_or]; exact ⟨hbm, hbc⟩))
  have p6 := F6.out.pc
  obtain ⟨s6, s7⟩ := HZ.out w6 _ ((Upto.of_ext X5.out).trans HU6.out) (by simp only [not_or]; exact ⟨hbm, hbc⟩)
  go_wp2_with fail
  go_region
  have hF7 := F6.out.setR x1.toNat (by omega) (cs.getD kk 0)
  have p7 := hF7.pc
  have q7 := hF7.fz0
  have F7 := Lib.hid hF7
  clear hF7 s7 z0 z1 z2 z3 z4 z5 z6 z7
  go_wp2_with fail
  go_ret2
  exact ⟨rfl, ⟨A2, cap, (F7.out.setPc _).ext (Below.refl _ _).drew,
    HB.out.upto (((U6.out.mono (T := M) (by rintro q _ (rfl | rfl | rfl) <;> assumption)).setCell (p := ⟨b, _, none⟩) hMb _).setCell (p := ⟨b, _, none⟩) hMb _).drew (fun hn a e => HM.out hn a e), hcap, HM.out⟩,
    by rw [HU.out]; exact M6.out.upto (S := (· = b)) (((Upto.refl _ _).setB _ _).setB _ _).drew (by omega) (by omega) (by omega),
    ((U6.out.setCell (p := ⟨b, _, none⟩) (.inl rfl) _).setCell (p := ⟨b, _, none⟩) (.inl rfl) _).drew⟩
set_option maxRecDepth 100000 in
set_option maxHeartbeats 8000000 in
theorem rcell_18 (k kk : Nat) (x1 x2 x3 v m wh : Int) (hF : FrB M w b o k r bk) (hi : InsAt w bc off l) (hlen : l.length ≤ 1000000) (hk : k < l.length) (hx : l[k] = ⟨18, x1, x2, x3, v, m, wh⟩) (hv : rightF ⟨18, x1, x2, x3, v, 0, 0⟩ l.length true = true) (hrm : RMemAt w m2 c2 d2 cs ws ct) (ha0 : 0 ≤ x1) (ha1 : x1 < 32) (hxv : Rng v) (hrr : ∀ i, Rng (r.getD i 0)) (hcr : ∀ i, Rng (cs.getD i 0)) (hkl : kk < cs.length) (hw : ws.getD kk 0 ≠ 0) (hc0 : 0 ≤ ct) (hc1 : ct ≤ 1000000000000000)
    (hat : addressF r ⟨18, x1, x2, x3, v, m, wh⟩ = kk) (hMb : M b) (hMm : M m2) (hMc : M c2) (hbm : b ≠ m2) (hbc : b ≠ c2) (hbd : b ≠ d2) :
    Calls Tryd.prog 11 #[.pointer (some ⟨b, o, none⟩), .slice (some ⟨bc, off, none⟩) l.length ccap, .pointer (some ⟨m2, 0, none⟩)] w (RCellPost M w b o (k + 1) (r.set x1.toNat (r.getD x1.toNat 0)) bk m2 c2 d2 (cs.set kk (newF 1 (ws.getD kk 0) (cs.getD kk 0) (r.getD x1.toNat 0) (r.getD x1.toNat 0))) ws (ct + 1)) := by
  have HF0 := Lib.hid hF
  obtain ⟨A2, cap, hFr, hB, hcap, hM⟩ := hF
  have h0 := hFr.pc
  obtain ⟨c0, c1, c2, c3, c4, c5, c6⟩ := hi k hk
  rw [hx] at c0 c1 c2 c3 c4 c5 c6
  have lb0 := World.block_lt_of_cell? _ _ h0
  have lb1 := World.block_lt_of_cell? _ _ c0
  have h1 : (k : Int) < (l.length : Int) := by omega
  have h2 : (0 : Int) ≤ (k : Int) := by omega
  have HV := Lib.hid hv
  have HF := Lib.hid hFr
  have HB := Lib.hid hB
  have HM := Lib.hid hM
  clear hFr hB hM hv hx hi
  simp only at c0 c1 c2 c3 c4 c5 c6
  have hr := HF.out.r x1.toNat (by omega)
  have HZ := Lib.hid (show ∀ W (S : Nat → Prop), Upto S w W → ¬ S b → W.frozen? ⟨b, o, none⟩ = false ∧ W.frozen? ⟨b, o + 1 + x1.toNat, none⟩ = false from fun W S hX hS => ⟨(HF.out.upto hX hS).fz0, by have h := (HF.out.upto hX hS).fz (1 + x1.toNat) (by omega); rw [← Nat.add_assoc] at h; exact h⟩)
  have HK := Lib.hid hat
  have HR := Lib.hid hrm
  clear hat hrm
  have lm := HR.out.lm
  have lc := HR.out.lc
  have R1 := Lib.hid (hrr x1.toNat)
  have R3 := Lib.hid (hrr x3.toNat)
  have RC := Lib.hid (hcr kk)
  have RV := Lib.hid hxv
  have HW := Lib.hid hw
  have LT := Lib.hid hkl
  clear hrr hcr hxv hw hkl
  unfold RCellPost FrB
  go_enter Tryd.func11, Tryd.ntmps11
  go_upto_region 48 with (first
      | (go_at_call 33; refine (right_any ⟨18, x1, x2, x3, v, 0, 0⟩ l.length _ (by omega) (by omega) _).mono ?_; rintro e w1 ⟨rfl, hb⟩; rw [HV.out]
         have hX : Ext w w1 := ((ext1 w _).alloc (by simp) _).trans (hb.mono (by simp; omega))
         have d0 := (hX.cell (p := ⟨b, o, none⟩) lb0).trans h0
         have t0 : w1.cell? ⟨w.heap.size, 0, none⟩ = some (.int .i64 18) := (hb.cell (p := ⟨w.heap.size, 0, none⟩) (by simp <;> omega)).trans (by simp)
         have t1 : w1.cell? ⟨w.heap.size, 1, none⟩ = some (.int .i64 x1) := (hb.cell (p := ⟨w.heap.size, 1, none⟩) (by simp <;> omega)).trans (by simp)
         have t2 : w1.cell? ⟨w.heap.size, 2, none⟩ = some (.int .i64 x2) := (hb.cell (p := ⟨w.heap.size, 2, none⟩) (by simp <;> omega)).trans (by simp)
         have t3 : w1.cell? ⟨w.heap.size, 3, none⟩ = some (.int .i64 x3) := (hb.cell (p := ⟨w.heap.size, 3, none⟩) (by simp <;> omega)).trans (by simp)
         have t4 : w1.cell? ⟨w.heap.size, 4, none⟩ = some (.int .u64 v) := (hb.cell (p := ⟨w.heap.size, 4, none⟩) (by simp <;> omega)).trans (by simp)
         have t5 : w1.cell? ⟨w.heap.size, 5, none⟩ = some (.int .i64 m) := (hb.cell (p := ⟨w.heap.size, 5, none⟩) (by simp <;> omega)).trans (by simp)
         have t6 : w1.cell? ⟨w.heap.size, 6, none⟩ = some (.int .i64 wh) := (hb.cell (p := ⟨w.heap.size, 6, none⟩) (by simp <;> omega)).trans (by simp)
         have hsz1 : w.heap.size < w1.heap.size := World.block_lt_of_cell? _ _ t0
         have X1 := Lib.hid hX
         clear hb hX h0))
  have r1 := (X1.out.cell (p := ⟨b, o + 1 + x1.toNat, none⟩) lb0).trans hr
  generalize hu : r.getD x1.toNat 0 = u at r1 R1
  have HU := Lib.hid hu
  clear hr hu c0 c1 c2 c3 c4 c5 c6
  have hbn : b ≠ w.heap.size := by omega
  have hmn : m2 ≠ w.heap.size := by omega
  have hcn : c2 ≠ w.heap.size := by omega
  go_quiet (fail)
  have EQ : ∀ p : Addr, (w1.drewN nq).cell? p = w1.cell? p := fun p => by simp
  rw [← EQ] at d0 t0 t1 t2 t3 t4 t5 t6 r1
  have XQn := Lib.hid (show Ext w (w1.drewN nq) from X1.out.trans ⟨rfl, rfl, rfl, Nat.le_refl _, fun _ _ => rfl⟩)
  have hszn : w.heap.size < (w1.drewN nq).heap.size := hsz1
  have lbn : b < (w1.drewN nq).heap.size := Nat.lt_of_lt_of_le lb0 XQn.out.size
  clear EQ X1 hsz1
  generalize w1.drewN nq = W1 at d0 t0 t1 t2 t3 t4 t5 t6 r1 XQn hszn lbn ⊢
  have XQ := Lib.hid XQn.out
  have hszW : w.heap.size < W1.heap.size := hszn
  have lbW : b < W1.heap.size := lbn
  clear XQn hszn lbn
  go_wp2_with fail
  have XD := Lib.hid (show Ext w W1.drew from XQ.out.drew)
  go_region_held3 (fun w' => w'.cell? ⟨w.heap.size, 0, none⟩ = some (.int .i64 18) ∧ w'.cell? ⟨w.heap.size, 1, none⟩ = some (.int .i64 x1) ∧ w'.cell? ⟨w.heap.size, 2, none⟩ = some (.int .i64 x2) ∧ w'.cell? ⟨w.heap.size, 3, none⟩ = some (.int .i64 x3) ∧ w'.cell? ⟨w.heap.size, 4, none⟩ = some (.int .u64 v) ∧ w'.cell? ⟨w.heap.size, 5, none⟩ = some (.int .i64 m) ∧ w'.cell? ⟨w.heap.size, 6, none⟩ = some (.int .i64 wh) ∧ w'.cell? ⟨b, o + 1 + x1.toNat, none⟩ = some (.int .u64 u))
    (first | exact ⟨t0, t1, t2, t3, t4, t5, t6, r1⟩ | exact ⟨y0, y1, y2, y3, y4, y5, y6, y7⟩ | exact ⟨z0, z1, z2, z3, z4, z5, z6, z7⟩)
    (first
      | (go_at_call 36; refine (accessF_any 18 (by omega) _).mono ?_; rintro e w' ⟨rfl, rfl⟩; rw [show kindOf 18 = 1 from rfl])
      | (go_at_call 37; refine (raddress_any b o k r A2 bk.length cap ⟨18, x1, x2, x3, v, m, wh⟩ _ (HF.out.ext XD.out) RV.out.1 RV.out.2).mono ?_; rintro e w5 ⟨rfl, hx5⟩; rw [HK.out]
         have y0 : w5.cell? ⟨w.heap.size, 0, none⟩ = some (.int .i64 18) := (hx5.cell (p := ⟨w.heap.size, 0, none⟩) hszW).trans t0
         have y1 : w5.cell? ⟨w.heap.size, 1, none⟩ = some (.int .i64 x1) := (hx5.cell (p := ⟨w.heap.size, 1, none⟩) hszW).trans t1
         have y2 : w5.cell? ⟨w.heap.size, 2, none⟩ = some (.int .i64 x2) := (hx5.cell (p := ⟨w.heap.size, 2, none⟩) hszW).trans t2
         have y3 : w5.cell? ⟨w.heap.size, 3, none⟩ = some (.int .i64 x3) := (hx5.cell (p := ⟨w.heap.size, 3, none⟩) hszW).trans t3
         have y4 : w5.cell? ⟨w.heap.size, 4, none⟩ = some (.int .u64 v) := (hx5.cell (p := ⟨w.heap.size, 4, none⟩) hszW).trans t4
         have y5 : w5.cell? ⟨w.heap.size, 5, none⟩ = some (.int .i64 m) := (hx5.cell (p := ⟨w.heap.size, 5, none⟩) hszW).trans t5
         have y6 : w5.cell? ⟨w.heap.size, 6, none⟩ = some (.int .i64 wh) := (hx5.cell (p := ⟨w.heap.size, 6, none⟩) hszW).trans t6
         have y7 : w5.cell? ⟨b, o + 1 + x1.toNat, none⟩ = some (.int .u64 u) := (hx5.cell (p := ⟨b, o + 1 + x1.toNat, none⟩) lbW).trans r1
         have X5 := Lib.hid (XD.out.trans (hx5.mono XD.out.size))
         have hsz5 : w.heap.size < w5.heap.size := Nat.lt_of_lt_of_le hszW hx5.size
         clear hx5)
      | (go_at_call 24; refine (rdo_hit m2 c2 d2 cs ws ct _ 1 kk u u (by omega) (HR.out.ext X5.out) LT.out HW.out hc0 hc1 R1.out.1 R1.out.2 R1.out.1 R1.out.2 RC.out).mono ?_; rintro e w6 ⟨rfl, hm6, hu6⟩
         have z0 : w6.cell? ⟨w.heap.size, 0, none⟩ = some (.int .i64 18) := (hu6.cell (p := ⟨w.heap.size, 0, none⟩) hsz5 (by simp only [not_or]; exact ⟨Ne.symm hmn, Ne.symm hcn⟩)).trans y0
         have z1 : w6.cell? ⟨w.heap.size, 1, none⟩ = some (.int .i64 x1) := (hu6.cell (p := ⟨w.heap.size, 1, none⟩) hsz5 (by simp only [not_or]; exact ⟨Ne.symm hmn, Ne.symm hcn⟩)).trans y1
         have z2 : w6.cell? ⟨w.heap.size, 2, none⟩ = some (.int .i64 x2) := (hu6.cell (p := ⟨w.heap.size, 2, none⟩) hsz5 (by simp only [not_or]; exact ⟨Ne.symm hmn, Ne.symm hcn⟩)).trans y2
         have z3 : w6.cell? ⟨w.heap.size, 3, none⟩ = some (.int .i64 x3) := (hu6.cell (p := ⟨w.heap.size, 3, none⟩) hsz5 (by simp only [not_or]; exact ⟨Ne.symm hmn, Ne.symm hcn⟩)).trans y3
         have z4 : w6.cell? ⟨w.heap.size, 4, none⟩ = some (.int .u64 v) := (hu6.cell (p := ⟨w.heap.size, 4, none⟩) hsz5 (by simp only [not_or]; exact ⟨Ne.symm hmn, Ne.symm hcn⟩)).trans y4
         have z5 : w6.cell? ⟨w.heap.size, 5, none⟩ = some (.int .i64 m) := (hu6.cell (p := ⟨w.heap.size, 5, none⟩) hsz5 (by simp only [not_or]; exact ⟨Ne.symm hmn, Ne.symm hcn⟩)).trans y5
         have z6 : w6.cell? ⟨w.heap.size, 6, none⟩ = some (.int .i64 wh) := (hu6.cell (p := ⟨w.heap.size, 6, none⟩) hsz5 (by simp only [not_or]; exact ⟨Ne.symm hmn, Ne.symm hcn⟩)).trans y6
         have z7 : w6.cell? ⟨b, o + 1 + x1.toNat, none⟩ = some (.int .u64 u) := (hu6.cell (p := ⟨b, o + 1 + x1.toNat, none⟩) (Nat.lt_of_lt_of_le lb0 X5.out.size) (by simp only [not_or]; exact ⟨hbm, hbc⟩)).trans y7
         have M6 := Lib.hid hm6
         have HU6 := Lib.hid hu6
         clear hm6 hu6))
  have U6 := Lib.hid (show Upto (fun q => q = b ∨ q = m2 ∨ q = c2) w w6 from (Upto.of_ext X5.out).trans (HU6.out.mono (by rintro q _ (h | h) <;> simp [h])))
  have F6 := Lib.hid (HF.out.upto ((Upto.of_ext X5.out).trans HU6.out) (by simp only [not_or]; exact ⟨hbm, hbc⟩))
  have p6 := F6.out.pc
  obtain ⟨s6, s7⟩ := HZ.out w6 _ ((Upto.of_ext X5.out).trans HU6.out) (by simp only [not_or]; exact ⟨hbm, hbc⟩)
  go_wp2_with fail
  go_ret2
  exact ⟨rfl, ⟨A2, cap, by rw [HU.out, ← HU.out, set_getD_self _ _ (by rw [HF.out.len]; omega)]; exact F6.out.setPc _,
    HB.out.upto ((U6.out.mono (T := M) (by rintro q _ (rfl | rfl | rfl) <;> assumption)).setCell (p := ⟨b, _, none⟩) hMb _) (fun hn a e => HM.out hn a e), hcap, HM.out⟩,
    by rw [HU.out]; exact M6.out.upto (S := (· = b)) ((Upto.refl _ _).setB _ _) (by omega) (by omega) (by omega),
    U6.out.setCell (p := ⟨b, _, none⟩) (.inl rfl) _⟩
set_option maxRecDepth 100000 in
set_option maxHeartbeats 8000000 in
theorem rcell_19 (k kk : Nat) (x1 x2 x3 v m wh : Int) (hF : FrB M w b o k r bk) (hi : InsAt w bc off l) (hlen : l.length ≤ 1000000) (hk : k < l.length) (hx : l[k] = ⟨19, x1, x2, x3, v, m, wh⟩) (hv : rightF ⟨19, x1, x2, x3, v, 0, 0⟩ l.length true = true) (hrm : RMemAt w m2 c2 d2 cs ws ct) (ha0 : 0 ≤ x1) (ha1 : x1 < 32) (hxv : Rng v) (hrr : ∀ i, Rng (r.getD i 0)) (hcr : ∀ i, Rng (cs.getD i 0)) (hkl : kk < cs.length) (hw : ws.getD kk 0 ≠ 0) (hc0 : 0 ≤ ct) (hc1 : ct ≤ 1000000000000000)
    (hat : addressF r ⟨19, x1, x2, x3, v, m, wh⟩ = kk) (hMb : M b) (hMm : M m2) (hMc : M c2) (hbm : b ≠ m2) (hbc : b ≠ c2) (hbd : b ≠ d2) :
    Calls Tryd.prog 11 #[.pointer (some ⟨b, o, none⟩), .slice (some ⟨bc, off, none⟩) l.length ccap, .pointer (some ⟨m2, 0, none⟩)] w (RCellPost M w b o (k + 1) (r.set x1.toNat (cs.getD kk 0)) bk m2 c2 d2 (cs.set kk (newF 2 (ws.getD kk 0) (cs.getD kk 0) (r.getD x1.toNat 0) (r.getD x1.toNat 0))) ws (ct + 1)) := by
  have HF0 := Lib.hid hF
  obtain ⟨A2, cap, hFr, hB, hcap, hM⟩ := hF
  have h0 := hFr.pc
  obtain ⟨c0, c1, c2, c3, c4, c5, c6⟩ := hi k hk
  rw [hx] at c0 c1 c2 c3 c4 c5 c6
  have lb0 := World.block_lt_of_cell? _ _ h0
  have lb1 := World.block_lt_of_cell? _ _ c0
  have h1 : (k : Int) < (l.length : Int) := by omega
  have h2 : (0 : Int) ≤ (k : Int) := by omega
  have HV := Lib.hid hv
  have HF := Lib.hid hFr
  have HB := Lib.hid hB
  have HM := Lib.hid hM
  clear hFr hB hM hv hx hi
  simp only at c0 c1 c2 c3 c4 c5 c6
  have hr := HF.out.r x1.toNat (by omega)
  have HZ := Lib.hid (show ∀ W (S : Nat → Prop), Upto S w W → ¬ S b → W.frozen? ⟨b, o, none⟩ = false ∧ W.frozen? ⟨b, o + 1 + x1.toNat, none⟩ = false from fun W S hX hS => ⟨(HF.out.upto hX hS).fz0, by have h := (HF.out.upto hX hS).fz (1 + x1.toNat) (by omega); rw [← Nat.add_assoc] at h; exact h⟩)
  have HK := Lib.hid hat
  have HR := Lib.hid hrm
  clear hat hrm
  have lm := HR.out.lm
  have lc := HR.out.lc
  have R1 := Lib.hid (hrr x1.toNat)
  have R3 := Lib.hid (hrr x3.toNat)
  have RC := Lib.hid (hcr kk)
  have RV := Lib.hid hxv
  have HW := Lib.hid hw
  have LT := Lib.hid hkl
  clear hrr hcr hxv hw hkl
  unfold RCellPost FrB
  go_enter Tryd.func11, Tryd.ntmps11
  go_upto_region 48 with (first
      | (go_at_call 33; refine (right_any ⟨19, x1, x2, x3, v, 0, 0⟩ l.length _ (by omega) (by omega) _).mono ?_; rintro e w1 ⟨rfl, hb⟩; rw [HV.out]
         have hX : Ext w w1 := ((ext1 w _).alloc (by simp) _).trans (hb.mono (by simp; omega))
         have d0 := (hX.cell (p := ⟨b, o, none⟩) lb0).trans h0
         have t0 : w1.cell? ⟨w.heap.size, 0, none⟩ = some (.int .i64 19) := (hb.cell (p := ⟨w.heap.size, 0, none⟩) (by simp <;> omega)).trans (by simp)
         have t1 : w1.cell? ⟨w.heap.size, 1, none⟩ = some (.int .i64 x1) := (hb.cell (p := ⟨w.heap.size, 1, none⟩) (by simp <;> omega)).trans (by simp)
         have t2 : w1.cell? ⟨w.heap.size, 2, none⟩ = some (.int .i64 x2) := (hb.cell (p := ⟨w.heap.size, 2, none⟩) (by simp <;> omega)).trans (by simp)
         have t3 : w1.cell? ⟨w.heap.size, 3, none⟩ = some (.int .i64 x3) := (hb.cell (p := ⟨w.heap.size, 3, none⟩) (by simp <;> omega)).trans (by simp)
         have t4 : w1.cell? ⟨w.heap.size, 4, none⟩ = some (.int .u64 v) := (hb.cell (p := ⟨w.heap.size, 4, none⟩) (by simp <;> omega)).trans (by simp)
         have t5 : w1.cell? ⟨w.heap.size, 5, none⟩ = some (.int .i64 m) := (hb.cell (p := ⟨w.heap.size, 5, none⟩) (by simp <;> omega)).trans (by simp)
         have t6 : w1.cell? ⟨w.heap.size, 6, none⟩ = some (.int .i64 wh) := (hb.cell (p := ⟨w.heap.size, 6, none⟩) (by simp <;> omega)).trans (by simp)
         have hsz1 : w.heap.size < w1.heap.size := World.block_lt_of_cell? _ _ t0
         have X1 := Lib.hid hX
         clear hb hX h0))
  have r1 := (X1.out.cell (p := ⟨b, o + 1 + x1.toNat, none⟩) lb0).trans hr
  generalize hu : r.getD x1.toNat 0 = u at r1 R1
  have HU := Lib.hid hu
  clear hr hu c0 c1 c2 c3 c4 c5 c6
  have hbn : b ≠ w.heap.size := by omega
  have hmn : m2 ≠ w.heap.size := by omega
  have hcn : c2 ≠ w.heap.size := by omega
  go_quiet (fail)
  have EQ : ∀ p : Addr, (w1.drewN nq).cell? p = w1.cell? p := fun p => by simp
  rw [← EQ] at d0 t0 t1 t2 t3 t4 t5 t6 r1
  have XQn := Lib.hid (show Ext w (w1.drewN nq) from X1.out.trans ⟨rfl, rfl, rfl, Nat.le_refl _, fun _ _ => rfl⟩)
  have hszn : w.heap.size < (w1.drewN nq).heap.size := hsz1
  have lbn : b < (w1.drewN nq).heap.size := Nat.lt_of_lt_of_le lb0 XQn.out.size
  clear EQ X1 hsz1
  generalize w1.drewN nq = W1 at d0 t0 t1 t2 t3 t4 t5 t6 r1 XQn hszn lbn ⊢
  have XQ := Lib.hid XQn.out
  have hszW : w.heap.size < W1.heap.size := hszn
  have lbW : b < W1.heap.size := lbn
  clear XQn hszn lbn
  go_wp2_with fail
  have XD := Lib.hid (show Ext w W1.drew from XQ.out.drew)
  go_region_held3 (fun w' => w'.cell? ⟨w.heap.size, 0, none⟩ = some (.int .i64 19) ∧ w'.cell? ⟨w.heap.size, 1, none⟩ = some (.int .i64 x1) ∧ w'.cell? ⟨w.heap.size, 2, none⟩ = some (.int .i64 x2) ∧ w'.cell? ⟨w.heap.size, 3, none⟩ = some (.int .i64 x3) ∧ w'.cell? ⟨w.heap.size, 4, none⟩ = some (.int .u64 v) ∧ w'.cell? ⟨w.heap.size, 5, none⟩ = some (.int .i64 m) ∧ w'.cell? ⟨w.heap.size, 6, none⟩ = some (.int .i64 wh) ∧ w'.cell? ⟨b, o + 1 + x1.toNat, none⟩ = some (.int .u64 u))
    (first | exact ⟨t0, t1, t2, t3, t4, t5, t6, r1⟩ | exact ⟨y0, y1, y2, y3, y4, y5, y6, y7⟩ | exact ⟨z0, z1, z2, z3, z4, z5, z6, z7⟩)
    (first
      | (go_at_call 36; refine (accessF_any 19 (by omega) _).mono ?_; rintro e w' ⟨rfl, rfl⟩; rw [show kindOf 19 = 2 from rfl])
      | (go_at_call 37; refine (raddress_any b o k r A2 bk.length cap ⟨19, x1, x2, x3, v, m, wh⟩ _ (HF.out.ext XD.out) RV.out.1 RV.out.2).mono ?_; rintro e w5 ⟨rfl, hx5⟩; rw [HK.out]
         have y0 : w5.cell? ⟨w.heap.size, 0, none⟩ = some (.int .i64 19) := (hx5.cell (p := ⟨w.heap.size, 0, none⟩) hszW).trans t0
         have y1 : w5.cell? ⟨w.heap.size, 1, none⟩ = some (.int .i64 x1) := (hx5.cell (p := ⟨w.heap.size, 1, none⟩) hszW).trans t1
         have y2 : w5.cell? ⟨w.heap.size, 2, none⟩ = some (.int .i64 x2) := (hx5.cell (p := ⟨w.heap.size, 2, none⟩) hszW).trans t2
         have y3 : w5.cell? ⟨w.heap.size, 3, none⟩ = some (.int .i64 x3) := (hx5.cell (p := ⟨w.heap.size, 3, none⟩) hszW).trans t3
         have y4 : w5.cell? ⟨w.heap.size, 4, none⟩ = some (.int .u64 v) := (hx5.cell (p := ⟨w.heap.size, 4, none⟩) hszW).trans t4
         have y5 : w5.cell? ⟨w.heap.size, 5, none⟩ = some (.int .i64 m) := (hx5.cell (p := ⟨w.heap.size, 5, none⟩) hszW).trans t5
         have y6 : w5.cell? ⟨w.heap.size, 6, none⟩ = some (.int .i64 wh) := (hx5.cell (p := ⟨w.heap.size, 6, none⟩) hszW).trans t6
         have y7 : w5.cell? ⟨b, o + 1 + x1.toNat, none⟩ = some (.int .u64 u) := (hx5.cell (p := ⟨b, o + 1 + x1.toNat, none⟩) lbW).trans r1
         have X5 := Lib.hid (XD.out.trans (hx5.mono XD.out.size))
         have hsz5 : w.heap.size < w5.heap.size := Nat.lt_of_lt_of_le hszW hx5.size
         clear hx5)
      | (go_at_call 24; refine (rdo_hit m2 c2 d2 cs ws ct _ 2 kk u u (by omega) (HR.out.ext X5.out) LT.out HW.out hc0 hc1 R1.out.1 R1.out.2 R1.out.1 R1.out.2 RC.out).mono ?_; rintro e w6 ⟨rfl, hm6, hu6⟩
         have z0 : w6.cell? ⟨w.heap.size, 0, none⟩ = some (.int .i64 19) := (hu6.cell (p := ⟨w.heap.size, 0, none⟩) hsz5 (by simp only [not_or]; exact ⟨Ne.symm hmn, Ne.symm hcn⟩)).trans y0
         have z1 : w6.cell? ⟨w.heap.size, 1, none⟩ = some (.int .i64 x1) := (hu6.cell (p := ⟨w.heap.size, 1, none⟩) hsz5 (by simp only [not_or]; exact ⟨Ne.symm hmn, Ne.symm hcn⟩)).trans y1
         have z2 : w6.cell? ⟨w.heap.size, 2, none⟩ = some (.int .i64 x2) := (hu6.cell (p := ⟨w.heap.size, 2, none⟩) hsz5 (by simp only [not_or]; exact ⟨Ne.symm hmn, Ne.symm hcn⟩)).trans y2
         have z3 : w6.cell? ⟨w.heap.size, 3, none⟩ = some (.int .i64 x3) := (hu6.cell (p := ⟨w.heap.size, 3, none⟩) hsz5 (by simp only [not_or]; exact ⟨Ne.symm hmn, Ne.symm hcn⟩)).trans y3
         have z4 : w6.cell? ⟨w.heap.size, 4, none⟩ = some (.int .u64 v) := (hu6.cell (p := ⟨w.heap.size, 4, none⟩) hsz5 (by simp only [not_or]; exact ⟨Ne.symm hmn, Ne.symm hcn⟩)).trans y4
         have z5 : w6.cell? ⟨w.heap.size, 5, none⟩ = some (.int .i64 m) := (hu6.cell (p := ⟨w.heap.size, 5, none⟩) hsz5 (by simp only [not_or]; exact ⟨Ne.symm hmn, Ne.symm hcn⟩)).trans y5
         have z6 : w6.cell? ⟨w.heap.size, 6, none⟩ = some (.int .i64 wh) := (hu6.cell (p := ⟨w.heap.size, 6, none⟩) hsz5 (by simp only [not_or]; exact ⟨Ne.symm hmn, Ne.symm hcn⟩)).trans y6
         have z7 : w6.cell? ⟨b, o + 1 + x1.toNat, none⟩ = some (.int .u64 u) := (hu6.cell (p := ⟨b, o + 1 + x1.toNat, none⟩) (Nat.lt_of_lt_of_le lb0 X5.out.size) (by simp only [not_or]; exact ⟨hbm, hbc⟩)).trans y7
         have M6 := Lib.hid hm6
         have HU6 := Lib.hid hu6
         clear hm6 hu6))
  have U6 := Lib.hid (show Upto (fun q => q = b ∨ q = m2 ∨ q = c2) w w6 from (Upto.of_ext X5.out).trans (HU6.out.mono (by rintro q _ (h | h) <;> simp [h])))
  have F6 := Lib.hid (HF.out.upto ((Upto.of_ext X5.out).trans HU6.out) (by simp only [not_or]; exact ⟨hbm, hbc⟩))
  have p6 := F6.out.pc
  obtain ⟨s6, s7⟩ := HZ.out w6 _ ((Upto.of_ext X5.out).trans HU6.out) (by simp only [not_or]; exact ⟨hbm, hbc⟩)
  go_wp2_with fail
  go_region
  have hF7 := F6.out.setR x1.toNat (by omega) (cs.getD kk 0)
  have p7 := hF7.pc
  have q7 := hF7.fz0
  have F7 := Lib.hid hF7
  clear hF7 s7 z0 z1 z2 z3 z4 z5 z6 z7
  go_wp2_with fail
  go_ret2
  exact ⟨rfl, ⟨A2, cap, (F7.out.setPc _).ext (Below.refl _ _).drew,
    HB.out.upto (((U6.out.mono (T := M) (by rintro q _ (rfl | rfl | rfl) <;> assumption)).setCell (p := ⟨b, _, none⟩) hMb _).setCell (p := ⟨b, _, none⟩) hMb _).drew (fun hn a e => HM.out hn a e), hcap, HM.out⟩,
    by rw [HU.out]; exact M6.out.upto (S := (· = b)) (((Upto.refl _ _).setB _ _).setB _ _).drew (by omega) (by omega) (by omega),
    ((U6.out.setCell (p := ⟨b, _, none⟩) (.inl rfl) _).setCell (p := ⟨b, _, none⟩) (.inl rfl) _).drew⟩
set_option maxRecDepth 100000 in
set_option maxHeartbeats 8000000 in
theorem rcell_20 (k kk : Nat) (x1 x2 x3 v m wh : Int) (hF : FrB M w b o k r bk) (hi : InsAt w bc off l) (hlen : l.length ≤ 1000000) (hk : k < l.length) (hx : l[k] = ⟨20, x1, x2, x3, v, m, wh⟩) (hv : rightF ⟨20, x1, x2, x3, v, 0, 0⟩ l.length true = true) (hrm : RMemAt w m2 c2 d2 cs ws ct) (ha0 : 0 ≤ x1) (ha1 : x1 < 32) (hxv : Rng v) (hrr : ∀ i, Rng (r.getD i 0)) (hcr : ∀ i, Rng (cs.getD i 0)) (hkl : kk < cs.length) (hw : ws.getD kk 0 ≠ 0) (hc0 : 0 ≤ ct) (hc1 : ct ≤ 1000000000000000)
    (hat : addressF r ⟨20, x1, x2, x3, v, m, wh⟩ = kk) (hMb : M b) (hMm : M m2) (hMc : M c2) (hbm : b ≠ m2) (hbc : b ≠ c2) (hbd : b ≠ d2) :
    Calls Tryd.prog 11 #[.pointer (some ⟨b, o, none⟩), .slice (some ⟨bc, off, none⟩) l.length ccap, .pointer (some ⟨m2, 0, none⟩)] w (RCellPost M w b o (k + 1) (r.set x1.toNat (cs.getD kk 0)) bk m2 c2 d2 (cs.set kk (newF 3 (ws.getD kk 0) (cs.getD kk 0) (r.getD x1.toNat 0) (r.getD x1.toNat 0))) ws (ct + 1)) := by
  have HF0 := Lib.hid hF
  obtain ⟨A2, cap, hFr, hB, hcap, hM⟩ := hF
  have h0 := hFr.pc
  obtain ⟨c0, c1, c2, c3, c4, c5, c6⟩ := hi k hk
  rw [hx] at c0 c1 c2 c3 c4 c5 c6
  have lb0 := World.block_lt_of_cell? _ _ h0
  have lb1 := World.block_lt_of_cell? _ _ c0
  have h1 : (k : Int) < (l.length : Int) := by omega
  have h2 : (0 : Int) ≤ (k : Int) := by omega
  have HV := Lib.hid hv
  have HF := Lib.hid hFr
  have HB := Lib.hid hB
  have HM := Lib.hid hM
  clear hFr hB hM hv hx hi
  simp only at c0 c1 c2 c3 c4 c5 c6
  have hr := HF.out.r x1.toNat (by omega)
  have HZ := Lib.hid (show ∀ W (S : Nat → Prop), Upto S w W → ¬ S b → W.frozen? ⟨b, o, none⟩ = false ∧ W.frozen? ⟨b, o + 1 + x1.toNat, none⟩ = false from fun W S hX hS => ⟨(HF.out.upto hX hS).fz0, by have h := (HF.out.upto hX hS).fz (1 + x1.toNat) (by omega); rw [← Nat.add_assoc] at h; exact h⟩)
  have HK := Lib.hid hat
  have HR := Lib.hid hrm
  clear hat hrm
  have lm := HR.out.lm
  have lc := HR.out.lc
  have R1 := Lib.hid (hrr x1.toNat)
  have R3 := Lib.hid (hrr x3.toNat)
  have RC := Lib.hid (hcr kk)
  have RV := Lib.hid hxv
  have HW := Lib.hid hw
  have LT := Lib.hid hkl
  clear hrr hcr hxv hw hkl
  unfold RCellPost FrB
  go_enter Tryd.func11, Tryd.ntmps11
  go_upto_region 48 with (first
      | (go_at_call 33; refine (right_any ⟨20, x1, x2, x3, v, 0, 0⟩ l.length _ (by omega) (by omega) _).mono ?_; rintro e w1 ⟨rfl, hb⟩; rw [HV.out]
         have hX : Ext w w1 := ((ext1 w _).alloc (by simp) _).trans (hb.mono (by simp; omega))
         have d0 := (hX.cell (p := ⟨b, o, none⟩) lb0).trans h0
         have t0 : w1.cell? ⟨w.heap.size, 0, none⟩ = some (.int .i64 20) := (hb.cell (p := ⟨w.heap.size, 0, none⟩) (by simp <;> omega)).trans (by simp)
         have t1 : w1.cell? ⟨w.heap.size, 1, none⟩ = some (.int .i64 x1) := (hb.cell (p := ⟨w.heap.size, 1, none⟩) (by simp <;> omega)).trans (by simp)
         have t2 : w1.cell? ⟨w.heap.size, 2, none⟩ = some (.int .i64 x2) := (hb.cell (p := ⟨w.heap.size, 2, none⟩) (by simp <;> omega)).trans (by simp)
         have t3 : w1.cell? ⟨w.heap.size, 3, none⟩ = some (.int .i64 x3) := (hb.cell (p := ⟨w.heap.size, 3, none⟩) (by simp <;> omega)).trans (by simp)
         have t4 : w1.cell? ⟨w.heap.size, 4, none⟩ = some (.int .u64 v) := (hb.cell (p := ⟨w.heap.size, 4, none⟩) (by simp <;> omega)).trans (by simp)
         have t5 : w1.cell? ⟨w.heap.size, 5, none⟩ = some (.int .i64 m) := (hb.cell (p := ⟨w.heap.size, 5, none⟩) (by simp <;> omega)).trans (by simp)
         have t6 : w1.cell? ⟨w.heap.size, 6, none⟩ = some (.int .i64 wh) := (hb.cell (p := ⟨w.heap.size, 6, none⟩) (by simp <;> omega)).trans (by simp)
         have hsz1 : w.heap.size < w1.heap.size := World.block_lt_of_cell? _ _ t0
         have X1 := Lib.hid hX
         clear hb hX h0))
  have r1 := (X1.out.cell (p := ⟨b, o + 1 + x1.toNat, none⟩) lb0).trans hr
  generalize hu : r.getD x1.toNat 0 = u at r1 R1
  have HU := Lib.hid hu
  clear hr hu c0 c1 c2 c3 c4 c5 c6
  have hbn : b ≠ w.heap.size := by omega
  have hmn : m2 ≠ w.heap.size := by omega
  have hcn : c2 ≠ w.heap.size := by omega
  go_quiet (fail)
  have EQ : ∀ p : Addr, (w1.drewN nq).cell? p = w1.cell? p := fun p => by simp
  rw [← EQ] at d0 t0 t1 t2 t3 t4 t5 t6 r1
  have XQn := Lib.hid (show Ext w (w1.drewN nq) from X1.out.trans ⟨rfl, rfl, rfl, Nat.le_refl _, fun _ _ => rfl⟩)
  have hszn : w.heap.size < (w1.drewN nq).heap.size := hsz1
  have lbn : b < (w1.drewN nq).heap.size := Nat.lt_of_lt_of_le lb0 XQn.out.size
  clear EQ X1 hsz1
  generalize w1.drewN nq = W1 at d0 t0 t1 t2 t3 t4 t5 t6 r1 XQn hszn lbn ⊢
  have XQ := Lib.hid XQn.out
  have hszW : w.heap.size < W1.heap.size := hszn
  have lbW : b < W1.heap.size := lbn
  clear XQn hszn lbn
  go_wp2_with fail
  have XD := Lib.hid (show Ext w W1.drew from XQ.out.drew)
  go_region_held3 (fun w' => w'.cell? ⟨w.heap.size, 0, none⟩ = some (.int .i64 20) ∧ w'.cell? ⟨w.heap.size, 1, none⟩ = some (.int .i64 x1) ∧ w'.cell? ⟨w.heap.size, 2, none⟩ = some (.int .i64 x2) ∧ w'.cell? ⟨w.heap.size, 3, none⟩ = some (.int .i64 x3) ∧ w'.cell? ⟨w.heap.size, 4, none⟩ = some (.int .u64 v) ∧ w'.cell? ⟨w.heap.size, 5, none⟩ = some (.int .i64 m) ∧ w'.cell? ⟨w.heap.size, 6, none⟩ = some (.int .i64 wh) ∧ w'.cell? ⟨b, o + 1 + x1.toNat, none⟩ = some (.int .u64 u))
    (first | exact ⟨t0, t1, t2, t3, t4, t5, t6, r1⟩ | exact ⟨y0, y1, y2, y3, y4, y5, y6, y7⟩ | exact ⟨z0, z1, z2, z3, z4, z5, z6, z7⟩)
    (first
      | (go_at_call 36; refine (accessF_any 20 (by omega) _).mono ?_; rintro e w' ⟨rfl, rfl⟩; rw [show kindOf 20 = 3 from rfl])
      | (go_at_call 37; refine (raddress_any b o k r A2 bk.length cap ⟨20, x1, x2, x3, v, m, wh⟩ _ (HF.out.ext XD.out) RV.out.1 RV.out.2).mono ?_; rintro e w5 ⟨rfl, hx5⟩; rw [HK.out]
         have y0 : w5.cell? ⟨w.heap.size, 0, none⟩ = some (.int .i64 20) := (hx5.cell (p := ⟨w.heap.size, 0, none⟩) hszW).trans t0
         have y1 : w5.cell? ⟨w.heap.size, 1, none⟩ = some (.int .i64 x1) := (hx5.cell (p := ⟨w.heap.size, 1, none⟩) hszW).trans t1
         have y2 : w5.cell? ⟨w.heap.size, 2, none⟩ = some (.int .i64 x2) := (hx5.cell (p := ⟨w.heap.size, 2, none⟩) hszW).trans t2
         have y3 : w5.cell? ⟨w.heap.size, 3, none⟩ = some (.int .i64 x3) := (hx5.cell (p := ⟨w.heap.size, 3, none⟩) hszW).trans t3
         have y4 : w5.cell? ⟨w.heap.size, 4, none⟩ = some (.int .u64 v) := (hx5.cell (p := ⟨w.heap.size, 4, none⟩) hszW).trans t4
         have y5 : w5.cell? ⟨w.heap.size, 5, none⟩ = some (.int .i64 m) := (hx5.cell (p := ⟨w.heap.size, 5, none⟩) hszW).trans t5
         have y6 : w5.cell? ⟨w.heap.size, 6, none⟩ = some (.int .i64 wh) := (hx5.cell (p := ⟨w.heap.size, 6, none⟩) hszW).trans t6
         have y7 : w5.cell? ⟨b, o + 1 + x1.toNat, none⟩ = some (.int .u64 u) := (hx5.cell (p := ⟨b, o + 1 + x1.toNat, none⟩) lbW).trans r1
         have X5 := Lib.hid (XD.out.trans (hx5.mono XD.out.size))
         have hsz5 : w.heap.size < w5.heap.size := Nat.lt_of_lt_of_le hszW hx5.size
         clear hx5)
      | (go_at_call 24; refine (rdo_hit m2 c2 d2 cs ws ct _ 3 kk u u (by omega) (HR.out.ext X5.out) LT.out HW.out hc0 hc1 R1.out.1 R1.out.2 R1.out.1 R1.out.2 RC.out).mono ?_; rintro e w6 ⟨rfl, hm6, hu6⟩
         have z0 : w6.cell? ⟨w.heap.size, 0, none⟩ = some (.int .i64 20) := (hu6.cell (p := ⟨w.heap.size, 0, none⟩) hsz5 (by simp only [not_or]; exact ⟨Ne.symm hmn, Ne.symm hcn⟩)).trans y0
         have z1 : w6.cell? ⟨w.heap.size, 1, none⟩ = some (.int .i64 x1) := (hu6.cell (p := ⟨w.heap.size, 1, none⟩) hsz5 (by simp only [not_or]; exact ⟨Ne.symm hmn, Ne.symm hcn⟩)).trans y1
         have z2 : w6.cell? ⟨w.heap.size, 2, none⟩ = some (.int .i64 x2) := (hu6.cell (p := ⟨w.heap.size, 2, none⟩) hsz5 (by simp only [not_or]; exact ⟨Ne.symm hmn, Ne.symm hcn⟩)).trans y2
         have z3 : w6.cell? ⟨w.heap.size, 3, none⟩ = some (.int .i64 x3) := (hu6.cell (p := ⟨w.heap.size, 3, none⟩) hsz5 (by simp only [not_or]; exact ⟨Ne.symm hmn, Ne.symm hcn⟩)).trans y3
         have z4 : w6.cell? ⟨w.heap.size, 4, none⟩ = some (.int .u64 v) := (hu6.cell (p := ⟨w.heap.size, 4, none⟩) hsz5 (by simp only [not_or]; exact ⟨Ne.symm hmn, Ne.symm hcn⟩)).trans y4
         have z5 : w6.cell? ⟨w.heap.size, 5, none⟩ = some (.int .i64 m) := (hu6.cell (p := ⟨w.heap.size, 5, none⟩) hsz5 (by simp only [not_or]; exact ⟨Ne.symm hmn, Ne.symm hcn⟩)).trans y5
         have z6 : w6.cell? ⟨w.heap.size, 6, none⟩ = some (.int .i64 wh) := (hu6.cell (p := ⟨w.heap.size, 6, none⟩) hsz5 (by simp only [not_or]; exact ⟨Ne.symm hmn, Ne.symm hcn⟩)).trans y6
         have z7 : w6.cell? ⟨b, o + 1 + x1.toNat, none⟩ = some (.int .u64 u) := (hu6.cell (p := ⟨b, o + 1 + x1.toNat, none⟩) (Nat.lt_of_lt_of_le lb0 X5.out.size) (by simp only [not_or]; exact ⟨hbm, hbc⟩)).trans y7
         have M6 := Lib.hid hm6
         have HU6 := Lib.hid hu6
         clear hm6 hu6))
  have U6 := Lib.hid (show Upto (fun q => q = b ∨ q = m2 ∨ q = c2) w w6 from (Upto.of_ext X5.out).trans (HU6.out.mono (by rintro q _ (h | h) <;> simp [h])))
  have F6 := Lib.hid (HF.out.upto ((Upto.of_ext X5.out).trans HU6.out) (by simp only [not_or]; exact ⟨hbm, hbc⟩))
  have p6 := F6.out.pc
  obtain ⟨s6, s7⟩ := HZ.out w6 _ ((Upto.of_ext X5.out).trans HU6.out) (by simp only [not_or]; exact ⟨hbm, hbc⟩)
  go_wp2_with fail
  go_region
  have hF7 := F6.out.setR x1.toNat (by omega) (cs.getD kk 0)
  have p7 := hF7.pc
  have q7 := hF7.fz0
  have F7 := Lib.hid hF7
  clear hF7 s7 z0 z1 z2 z3 z4 z5 z6 z7
  go_wp2_with fail
  go_ret2
  exact ⟨rfl, ⟨A2, cap, (F7.out.setPc _).ext (Below.refl _ _).drew,
    HB.out.upto (((U6.out.mono (T := M) (by rintro q _ (rfl | rfl | rfl) <;> assumption)).setCell (p := ⟨b, _, none⟩) hMb _).setCell (p := ⟨b, _, none⟩) hMb _).drew (fun hn a e => HM.out hn a e), hcap, HM.out⟩,
    by rw [HU.out]; exact M6.out.upto (S := (· = b)) (((Upto.refl _ _).setB _ _).setB _ _).drew (by omega) (by omega) (by omega),
    ((U6.out.setCell (p := ⟨b, _, none⟩) (.inl rfl) _).setCell (p := ⟨b, _, none⟩) (.inl rfl) _).drew⟩
set_option maxRecDepth 100000 in
set_option maxHeartbeats 8000000 in
theorem rcell_21 (k kk : Nat) (x1 x2 x3 v m wh : Int) (hF : FrB M w b o k r bk) (hi : InsAt w bc off l) (hlen : l.length ≤ 1000000) (hk : k < l.length) (hx : l[k] = ⟨21, x1, x2, x3, v, m, wh⟩) (hv : rightF ⟨21, x1, x2, x3, v, 0, 0⟩ l.length true = true) (hrm : RMemAt w m2 c2 d2 cs ws ct) (ha0 : 0 ≤ x1) (ha1 : x1 < 32) (hb0 : 0 ≤ x3) (hb1 : x3 < 32) (hxv : Rng v) (hrr : ∀ i, Rng (r.getD i 0)) (hcr : ∀ i, Rng (cs.getD i 0)) (hkl : kk < cs.length) (hw : ws.getD kk 0 ≠ 0) (hc0 : 0 ≤ ct) (hc1 : ct ≤ 1000000000000000)
    (hat : addressF r ⟨21, x1, x2, x3, v, m, wh⟩ = kk) (hMb : M b) (hMm : M m2) (hMc : M c2) (hbm : b ≠ m2) (hbc : b ≠ c2) (hbd : b ≠ d2) :
    Calls Tryd.prog 11 #[.pointer (some ⟨b, o, none⟩), .slice (some ⟨bc, off, none⟩) l.length ccap, .pointer (some ⟨m2, 0, none⟩)] w (RCellPost M w b o (k + 1) (r.set x1.toNat (cs.getD kk 0)) bk m2 c2 d2 (cs.set kk (newF 4 (ws.getD kk 0) (cs.getD kk 0) (r.getD x1.toNat 0) (r.getD x3.toNat 0))) ws (ct + 1)) := by
  have HF0 := Lib.hid hF
  obtain ⟨A2, cap, hFr, hB, hcap, hM⟩ := hF
  have h0 := hFr.pc
  obtain ⟨c0, c1, c2, c3, c4, c5, c6⟩ := hi k hk
  rw [hx] at c0 c1 c2 c3 c4 c5 c6
  have lb0 := World.block_lt_of_cell? _ _ h0
  have lb1 := World.block_lt_of_cell? _ _ c0
  have h1 : (k : Int) < (l.length : Int) := by omega
  have h2 : (0 : Int) ≤ (k : Int) := by omega
  have HV := Lib.hid hv
  have HF := Lib.hid hFr
  have HB := Lib.hid hB
  have HM := Lib.hid hM
  clear hFr hB hM hv hx hi
  simp only at c0 c1 c2 c3 c4 c5 c6
  have hr := HF.out.r x1.toNat (by omega)
  have hr3 := HF.out.r x3.toNat (by omega)
  have HZ := Lib.hid (show ∀ W (S : Nat → Prop), Upto S w W → ¬ S b → W.frozen? ⟨b, o, none⟩ = false ∧ W.frozen? ⟨b, o + 1 + x1.toNat, none⟩ = false from fun W S hX hS => ⟨(HF.out.upto hX hS).fz0, by have h := (HF.out.upto hX hS).fz (1 + x1.toNat) (by omega); rw [← Nat.add_assoc] at h; exact h⟩)
  have HK := Lib.hid hat
  have HR := Lib.hid hrm
  clear hat hrm
  have lm := HR.out.lm
  have lc := HR.out.lc
  have R1 := Lib.hid (hrr x1.toNat)
  have R3 := Lib.hid (hrr x3.toNat)
  have RC := Lib.hid (hcr kk)
  have RV := Lib.hid hxv
  have HW := Lib.hid hw
  have LT := Lib.hid hkl
  clear hrr hcr hxv hw hkl
  unfold RCellPost FrB
  go_enter Tryd.func11, Tryd.ntmps11
  go_upto_region 48 with (first
      | (go_at_call 33; refine (right_any ⟨21, x1, x2, x3, v, 0, 0⟩ l.length _ (by omega) (by omega) _).mono ?_; rintro e w1 ⟨rfl, hb⟩; rw [HV.out]
         have hX : Ext w w1 := ((ext1 w _).alloc (by simp) _).trans (hb.mono (by simp; omega))
         have d0 := (hX.cell (p := ⟨b, o, none⟩) lb0).trans h0
         have t0 : w1.cell? ⟨w.heap.size, 0, none⟩ = some (.int .i64 21) := (hb.cell (p := ⟨w.heap.size, 0, none⟩) (by simp <;> omega)).trans (by simp)
         have t1 : w1.cell? ⟨w.heap.size, 1, none⟩ = some (.int .i64 x1) := (hb.cell (p := ⟨w.heap.size, 1, none⟩) (by simp <;> omega)).trans (by simp)
         have t2 : w1.cell? ⟨w.heap.size, 2, none⟩ = some (.int .i64 x2) := (hb.cell (p := ⟨w.heap.size, 2, none⟩) (by simp <;> omega)).trans (by simp)
         have t3 : w1.cell? ⟨w.heap.size, 3, none⟩ = some (.int .i64 x3) := (hb.cell (p := ⟨w.heap.size, 3, none⟩) (by simp <;> omega)).trans (by simp)
         have t4 : w1.cell? ⟨w.heap.size, 4, none⟩ = some (.int .u64 v) := (hb.cell (p := ⟨w.heap.size, 4, none⟩) (by simp <;> omega)).trans (by simp)
         have t5 : w1.cell? ⟨w.heap.size, 5, none⟩ = some (.int .i64 m) := (hb.cell (p := ⟨w.heap.size, 5, none⟩) (by simp <;> omega)).trans (by simp)
         have t6 : w1.cell? ⟨w.heap.size, 6, none⟩ = some (.int .i64 wh) := (hb.cell (p := ⟨w.heap.size, 6, none⟩) (by simp <;> omega)).trans (by simp)
         have hsz1 : w.heap.size < w1.heap.size := World.block_lt_of_cell? _ _ t0
         have X1 := Lib.hid hX
         clear hb hX h0))
  have r1 := (X1.out.cell (p := ⟨b, o + 1 + x1.toNat, none⟩) lb0).trans hr
  have r3 := (X1.out.cell (p := ⟨b, o + 1 + x3.toNat, none⟩) lb0).trans hr3
  generalize hu3 : r.getD x3.toNat 0 = u3 at r3 R3
  have HU3 := Lib.hid hu3
  generalize hu : r.getD x1.toNat 0 = u at r1 R1
  have HU := Lib.hid hu
  clear hr hu c0 c1 c2 c3 c4 c5 c6 hr3 hu3
  have hbn : b ≠ w.heap.size := by omega
  have hmn : m2 ≠ w.heap.size := by omega
  have hcn : c2 ≠ w.heap.size := by omega
  go_quiet (fail)
  have EQ : ∀ p : Addr, (w1.drewN nq).cell? p = w1.cell? p := fun p => by simp
  rw [← EQ] at d0 t0 t1 t2 t3 t4 t5 t6 r1 r3
  have XQn := Lib.hid (show Ext w (w1.drewN nq) from X1.out.trans ⟨rfl, rfl, rfl, Nat.le_refl _, fun _ _ => rfl⟩)
  have hszn : w.heap.size < (w1.drewN nq).heap.size := hsz1
  have lbn : b < (w1.drewN nq).heap.size := Nat.lt_of_lt_of_le lb0 XQn.out.size
  clear EQ X1 hsz1
  generalize w1.drewN nq = W1 at d0 t0 t1 t2 t3 t4 t5 t6 r1 r3 XQn hszn lbn ⊢
  have XQ := Lib.hid XQn.out
  have hszW : w.heap.size < W1.heap.size := hszn
  have lbW : b < W1.heap.size := lbn
  clear XQn hszn lbn
  go_wp2_with fail
  go_quiet (fail)
  have EQ : ∀ p : Addr, (W1.drewN nq).cell? p = W1.cell? p := fun p => by simp
  rw [← EQ] at d0 t0 t1 t2 t3 t4 t5 t6 r1 r3
  have XQn := Lib.hid (show Ext w (W1.drewN nq) from XQ.out.trans ⟨rfl, rfl, rfl, Nat.le_refl _, fun _ _ => rfl⟩)
  have hszn : w.heap.size < (W1.drewN nq).heap.size := hszW
  have lbn : b < (W1.drewN nq).heap.size := Nat.lt_of_lt_of_le lb0 XQn.out.size
  clear EQ XQ hszW lbW
  generalize W1.drewN nq = W2 at d0 t0 t1 t2 t3 t4 t5 t6 r1 r3 XQn hszn lbn ⊢
  have XQ := Lib.hid XQn.out
  have hszW : w.heap.size < W2.heap.size := hszn
  have lbW : b < W2.heap.size := lbn
  clear XQn hszn lbn
  go_wp2_with fail
  have XD := Lib.hid (show Ext w W2.drew from XQ.out.drew)
  go_region_held3 (fun w' => w'.cell? ⟨w.heap.size, 0, none⟩ = some (.int .i64 21) ∧ w'.cell? ⟨w.heap.size, 1, none⟩ = some (.int .i64 x1) ∧ w'.cell? ⟨w.heap.size, 2, none⟩ = some (.int .i64 x2) ∧ w'.cell? ⟨w.heap.size, 3, none⟩ = some (.int .i64 x3) ∧ w'.cell? ⟨w.heap.size, 4, none⟩ = some (.int .u64 v) ∧ w'.cell? ⟨w.heap.size, 5, none⟩ = some (.int .i64 m) ∧ w'.cell? ⟨w.heap.size, 6, none⟩ = some (.int .i64 wh) ∧ w'.cell? ⟨b, o + 1 + x1.toNat, none⟩ = some (.int .u64 u))
    (first | exact ⟨t0, t1, t2, t3, t4, t5, t6, r1⟩ | exact ⟨y0, y1, y2, y3, y4, y5, y6, y7⟩ | exact ⟨z0, z1, z2, z3, z4, z5, z6, z7⟩)
    (first
      | (go_at_call 36; refine (accessF_any 21 (by omega) _).mono ?_; rintro e w' ⟨rfl, rfl⟩; rw [show kindOf 21 = 4 from rfl])
      | (go_at_call 37; refine (raddress_any b o k r A2 bk.length cap ⟨21, x1, x2, x3, v, m, wh⟩ _ (HF.out.ext XD.out) RV.out.1 RV.out.2).mono ?_; rintro e w5 ⟨rfl, hx5⟩; rw [HK.out]
         have y0 : w5.cell? ⟨w.heap.size, 0, none⟩ = some (.int .i64 21) := (hx5.cell (p := ⟨w.heap.size, 0, none⟩) hszW).trans t0
         have y1 : w5.cell? ⟨w.heap.size, 1, none⟩ = some (.int .i64 x1) := (hx5.cell (p := ⟨w.heap.size, 1, none⟩) hszW).trans t1
         have y2 : w5.cell? ⟨w.heap.size, 2, none⟩ = some (.int .i64 x2) := (hx5.cell (p := ⟨w.heap.size, 2, none⟩) hszW).trans t2
         have y3 : w5.cell? ⟨w.heap.size, 3, none⟩ = some (.int .i64 x3) := (hx5.cell (p := ⟨w.heap.size, 3, none⟩) hszW).trans t3
         have y4 : w5.cell? ⟨w.heap.size, 4, none⟩ = some (.int .u64 v) := (hx5.cell (p := ⟨w.heap.size, 4, none⟩) hszW).trans t4
         have y5 : w5.cell? ⟨w.heap.size, 5, none⟩ = some (.int .i64 m) := (hx5.cell (p := ⟨w.heap.size, 5, none⟩) hszW).trans t5
         have y6 : w5.cell? ⟨w.heap.size, 6, none⟩ = some (.int .i64 wh) := (hx5.cell (p := ⟨w.heap.size, 6, none⟩) hszW).trans t6
         have y7 : w5.cell? ⟨b, o + 1 + x1.toNat, none⟩ = some (.int .u64 u) := (hx5.cell (p := ⟨b, o + 1 + x1.toNat, none⟩) lbW).trans r1
         have X5 := Lib.hid (XD.out.trans (hx5.mono XD.out.size))
         have hsz5 : w.heap.size < w5.heap.size := Nat.lt_of_lt_of_le hszW hx5.size
         clear hx5)
      | (go_at_call 24; refine (rdo_hit m2 c2 d2 cs ws ct _ 4 kk u u3 (by omega) (HR.out.ext X5.out) LT.out HW.out hc0 hc1 R1.out.1 R1.out.2 R3.out.1 R3.out.2 RC.out).mono ?_; rintro e w6 ⟨rfl, hm6, hu6⟩
         have z0 : w6.cell? ⟨w.heap.size, 0, none⟩ = some (.int .i64 21) := (hu6.cell (p := ⟨w.heap.size, 0, none⟩) hsz5 (by simp only [not_or]; exact ⟨Ne.symm hmn, Ne.symm hcn⟩)).trans y0
         have z1 : w6.cell? ⟨w.heap.size, 1, none⟩ = some (.int .i64 x1) := (hu6.cell (p := ⟨w.heap.size, 1, none⟩) hsz5 (by simp only [not_or]; exact ⟨Ne.symm hmn, Ne.symm hcn⟩)).trans y1
         have z2 : w6.cell? ⟨w.heap.size, 2, none⟩ = some (.int .i64 x2) := (hu6.cell (p := ⟨w.heap.size, 2, none⟩) hsz5 (by simp only [not_or]; exact ⟨Ne.symm hmn, Ne.symm hcn⟩)).trans y2
         have z3 : w6.cell? ⟨w.heap.size, 3, none⟩ = some (.int .i64 x3) := (hu6.cell (p := ⟨w.heap.size, 3, none⟩) hsz5 (by simp only [not_or]; exact ⟨Ne.symm hmn, Ne.symm hcn⟩)).trans y3
         have z4 : w6.cell? ⟨w.heap.size, 4, none⟩ = some (.int .u64 v) := (hu6.cell (p := ⟨w.heap.size, 4, none⟩) hsz5 (by simp only [not_or]; exact ⟨Ne.symm hmn, Ne.symm hcn⟩)).trans y4
         have z5 : w6.cell? ⟨w.heap.size, 5, none⟩ = some (.int .i64 m) := (hu6.cell (p := ⟨w.heap.size, 5, none⟩) hsz5 (by simp only [not_or]; exact ⟨Ne.symm hmn, Ne.symm hcn⟩)).trans y5
         have z6 : w6.cell? ⟨w.heap.size, 6, none⟩ = some (.int .i64 wh) := (hu6.cell (p := ⟨w.heap.size, 6, none⟩) hsz5 (by simp only [not_or]; exact ⟨Ne.symm hmn, Ne.symm hcn⟩)).trans y6
         have z7 : w6.cell? ⟨b, o + 1 + x1.toNat, none⟩ = some (.int .u64 u) := (hu6.cell (p := ⟨b, o + 1 + x1.toNat, none⟩) (Nat.lt_of_lt_of_le lb0 X5.out.size) (by simp only [not_or]; exact ⟨hbm, hbc⟩)).trans y7
         have M6 := Lib.hid hm6
         have HU6 := Lib.hid hu6
         clear hm6 hu6))
  have U6 := Lib.hid (show Upto (fun q => q = b ∨ q = m2 ∨ q = c2) w w6 from (Upto.of_ext X5.out).trans (HU6.out.mono (by rintro q _ (h | h) <;> simp [h])))
  have F6 := Lib.hid (HF.out.upto ((Upto.of_ext X5.out).trans HU6.out) (by simp only [not_or]; exact ⟨hbm, hbc⟩))
  have p6 := F6.out.pc
  obtain ⟨s6, s7⟩ := HZ.out w6 _ ((Upto.of_ext X5.out).trans HU6.out) (by simp only [not_or]; exact ⟨hbm, hbc⟩)
  go_wp2_with fail
  go_region
  have hF7 := F6.out.setR x1.toNat (by omega) (cs.getD kk 0)
  have p7 := hF7.pc
  have q7 := hF7.fz0
  have F7 := Lib.hid hF7
  clear hF7 s7 z0 z1 z2 z3 z4 z5 z6 z7
  go_wp2_with fail
  go_ret2
  exact ⟨rfl, ⟨A2, cap, (F7.out.setPc _).ext (Below.refl _ _).drew,
    HB.out.upto (((U6.out.mono (T := M) (by rintro q _ (rfl | rfl | rfl) <;> assumption)).setCell (p := ⟨b, _, none⟩) hMb _).setCell (p := ⟨b, _, none⟩) hMb _).drew (fun hn a e => HM.out hn a e), hcap, HM.out⟩,
    by rw [HU.out, HU3.out]; exact M6.out.upto (S := (· = b)) (((Upto.refl _ _).setB _ _).setB _ _).drew (by omega) (by omega) (by omega),
    ((U6.out.setCell (p := ⟨b, _, none⟩) (.inl rfl) _).setCell (p := ⟨b, _, none⟩) (.inl rfl) _).drew⟩
end
end Go.Proofs.YtoncebfhkoabaaaDoor
