/- The document's Step: an access. -/
import Derived.Test.YtoncebfhkoabaaaDoorR5
import Derived.Deep.RegionHeld3
namespace Go.Proofs.YtoncebfhkoabaaaDoor
open Go.RowKit Go.Extern.Stop Go.Stop Go.Extern

section
variable (M : Nat → Prop) (b o bc off ccap : Nat) (l : List InsD) (r bk : List Int) (w : World) (m2 c2 d2 : Nat) (cs ws : List Int) (ct : Int)
set_option maxRecDepth 100000 in
set_option maxHeartbeats 8000000 in
theorem rmiss_17 (k : Nat) (at_ : Int) (x1 x2 x3 v m wh : Int) (hF : FrB M w b o k r bk) (hi : InsAt w bc off l) (hlen : l.length ≤ 1000000) (hk : k < l.length) (hx : l[k] = ⟨17, x1, x2, x3, v, m, wh⟩) (hv : rightF ⟨17, x1, x2, x3, v, 0, 0⟩ l.length true = true) (hrm : RMemAt w m2 c2 d2 cs ws ct) (ha0 : 0 ≤ x1) (ha1 : x1 < 32) (hxv : Rng v) (h0a : 0 ≤ at_) (hw : widthF ws at_ = 0)
    (hat : addressF r ⟨17, x1, x2, x3, v, m, wh⟩ = at_) :
    Calls Tryd.prog 11 #[.pointer (some ⟨b, o, none⟩), .slice (some ⟨bc, off, none⟩) l.length ccap, .pointer (some ⟨m2, 0, none⟩)] w (RMissPost M w b o k at_ r bk) := by
  have HF0 := Lib.hid hF
  obtain ⟨A2, cap, hFr, hB, hcap, hM⟩ := hF
  have h0 := hFr.pc
  obtain ⟨c0, c1, c2, c3, c4, c5, c6⟩ := hi k hk
  rw [hx] at c0 c1 c2 c3 c4 c5 c6
  have lb0 := World.block_lt_of_cell? _ _ h0
  have lb1 := World.block_lt_of_cell? _ _ c0
  have h1 : (k : Int) < (l.length : Int) := by omega
  have h2 : (0 : Int) ≤ (k : Int) := by omega
  have HV := Lib.hid hv
  have HF := Lib.hid hFr
  have HB := Lib.hid hB
  have HM := Lib.hid hM
  clear hFr hB hM hv hx hi
  simp only at c0 c1 c2 c3 c4 c5 c6
  have hr := HF.out.r x1.toNat (by omega)
  have HZ := Lib.hid (show ∀ W (S : Nat → Prop), Upto S w W → ¬ S b → W.frozen? ⟨b, o, none⟩ = false ∧ W.frozen? ⟨b, o + 1 + x1.toNat, none⟩ = false from fun W S hX hS => ⟨(HF.out.upto hX hS).fz0, by have h := (HF.out.upto hX hS).fz (1 + x1.toNat) (by omega); rw [← Nat.add_assoc] at h; exact h⟩)
  have HK := Lib.hid hat
  have HR := Lib.hid hrm
  clear hat hrm
  have RV := Lib.hid hxv
  have HW := Lib.hid hw
  clear hxv hw
  unfold RMissPost
  go_enter Tryd.func11, Tryd.ntmps11
  go_upto_region 48 with (first
      | (go_at_call 33; refine (right_any ⟨17, x1, x2, x3, v, 0, 0⟩ l.length _ (by omega) (by omega) _).mono ?_; rintro e w1 ⟨rfl, hb⟩; rw [HV.out]
         have hX : Ext w w1 := ((ext1 w _).alloc (by simp) _).trans (hb.mono (by simp; omega))
         have d0 := (hX.cell (p := ⟨b, o, none⟩) lb0).trans h0
         have t0 : w1.cell? ⟨w.heap.size, 0, none⟩ = some (.int .i64 17) := (hb.cell (p := ⟨w.heap.size, 0, none⟩) (by simp <;> omega)).trans (by simp)
         have t1 : w1.cell? ⟨w.heap.size, 1, none⟩ = some (.int .i64 x1) := (hb.cell (p := ⟨w.heap.size, 1, none⟩) (by simp <;> omega)).trans (by simp)
         have t2 : w1.cell? ⟨w.heap.size, 2, none⟩ = some (.int .i64 x2) := (hb.cell (p := ⟨w.heap.size, 2, none⟩) (by simp <;> omega)).trans (by simp)
         have t3 : w1.cell? ⟨w.heap.size, 3, none⟩ = some (.int .i64 x3) := (hb.cell (p := ⟨w.heap.size, 3, none⟩) (by simp <;> omega)).trans (by simp)
         have t4 : w1.cell? ⟨w.heap.size, 4, none⟩ = some (.int .u64 v) := (hb.cell (p := ⟨w.heap.size, 4, none⟩) (by simp <;> omega)).trans (by simp)
         have t5 : w1.cell? ⟨w.heap.size, 5, none⟩ = some (.int .i64 m) := (hb.cell (p := ⟨w.heap.size, 5, none⟩) (by simp <;> omega)).trans (by simp)
         have t6 : w1.cell? ⟨w.heap.size, 6, none⟩ = some (.int .i64 wh) := (hb.cell (p := ⟨w.heap.size, 6, none⟩) (by simp <;> omega)).trans (by simp)
         have hsz1 : w.heap.size < w1.heap.size := World.block_lt_of_cell? _ _ t0
         have X1 := Lib.hid hX
         clear hb hX h0))
  have r1 := (X1.out.cell (p := ⟨b, o + 1 + x1.toNat, none⟩) lb0).trans hr
  generalize r.getD x1.toNat 0 = u at r1
  clear hr c0 c1 c2 c3 c4 c5 c6
  go_quiet (fail)
  have EQ : ∀ p : Addr, (w1.drewN nq).cell? p = w1.cell? p := fun p => by simp
  rw [← EQ] at d0 t0 t1 t2 t3 t4 t5 t6 r1
  have XQn := Lib.hid (show Ext w (w1.drewN nq) from X1.out.trans ⟨rfl, rfl, rfl, Nat.le_refl _, fun _ _ => rfl⟩)
  have hszn : w.heap.size < (w1.drewN nq).heap.size := hsz1
  have lbn : b < (w1.drewN nq).heap.size := Nat.lt_of_lt_of_le lb0 XQn.out.size
  clear EQ X1 hsz1
  generalize w1.drewN nq = W1 at d0 t0 t1 t2 t3 t4 t5 t6 r1 XQn hszn lbn ⊢
  have XQ := Lib.hid XQn.out
  have hszW : w.heap.size < W1.heap.size := hszn
  have lbW : b < W1.heap.size := lbn
  clear XQn hszn lbn
  go_wp2_with fail
  have XD := Lib.hid (show Ext w W1.drew from XQ.out.drew)
  go_region_held3 (fun w' => w'.cell? ⟨w.heap.size, 0, none⟩ = some (.int .i64 17) ∧ w'.cell? ⟨w.heap.size, 1, none⟩ = some (.int .i64 x1) ∧ w'.cell? ⟨w.heap.size, 2, none⟩ = some (.int .i64 x2) ∧ w'.cell? ⟨w.heap.size, 3, none⟩ = some (.int .i64 x3) ∧ w'.cell? ⟨w.heap.size, 4, none⟩ = some (.int .u64 v) ∧ w'.cell? ⟨w.heap.size, 5, none⟩ = some (.int .i64 m) ∧ w'.cell? ⟨w.heap.size, 6, none⟩ = some (.int .i64 wh) ∧ w'.cell? ⟨b, o + 1 + x1.toNat, none⟩ = some (.int .u64 u))
    (first | exact ⟨t0, t1, t2, t3, t4, t5, t6, r1⟩ | exact ⟨y0, y1, y2, y3, y4, y5, y6, y7⟩ | exact ⟨z0, z1, z2, z3, z4, z5, z6, z7⟩)
    (first
      | (go_at_call 36; refine (accessF_any 17 (by omega) _).mono ?_; rintro e w' ⟨rfl, rfl⟩)
      | (go_at_call 37; refine (raddress_any b o k r A2 bk.length cap ⟨17, x1, x2, x3, v, m, wh⟩ _ (HF.out.ext XD.out) RV.out.1 RV.out.2).mono ?_; rintro e w5 ⟨rfl, hx5⟩; rw [HK.out]
         have y0 : w5.cell? ⟨w.heap.size, 0, none⟩ = some (.int .i64 17) := (hx5.cell (p := ⟨w.heap.size, 0, none⟩) hszW).trans t0
         have y1 : w5.cell? ⟨w.heap.size, 1, none⟩ = some (.int .i64 x1) := (hx5.cell (p := ⟨w.heap.size, 1, none⟩) hszW).trans t1
         have y2 : w5.cell? ⟨w.heap.size, 2, none⟩ = some (.int .i64 x2) := (hx5.cell (p := ⟨w.heap.size, 2, none⟩) hszW).trans t2
         have y3 : w5.cell? ⟨w.heap.size, 3, none⟩ = some (.int .i64 x3) := (hx5.cell (p := ⟨w.heap.size, 3, none⟩) hszW).trans t3
         have y4 : w5.cell? ⟨w.heap.size, 4, none⟩ = some (.int .u64 v) := (hx5.cell (p := ⟨w.heap.size, 4, none⟩) hszW).trans t4
         have y5 : w5.cell? ⟨w.heap.size, 5, none⟩ = some (.int .i64 m) := (hx5.cell (p := ⟨w.heap.size, 5, none⟩) hszW).trans t5
         have y6 : w5.cell? ⟨w.heap.size, 6, none⟩ = some (.int .i64 wh) := (hx5.cell (p := ⟨w.heap.size, 6, none⟩) hszW).trans t6
         have y7 : w5.cell? ⟨b, o + 1 + x1.toNat, none⟩ = some (.int .u64 u) := (hx5.cell (p := ⟨b, o + 1 + x1.toNat, none⟩) lbW).trans r1
         have X5 := Lib.hid (XD.out.trans (hx5.mono XD.out.size))
         have hsz5 : w.heap.size < w5.heap.size := Nat.lt_of_lt_of_le hszW hx5.size
         have lb5 : b < w5.heap.size := Nat.lt_of_lt_of_le lbW hx5.size
         clear hx5)
      | (go_at_call 24; refine (rdo_miss m2 c2 d2 cs ws ct _ _ at_ u _ (HR.out.ext X5.out) h0a HW.out).mono ?_; rintro e w6 ⟨f6, rfl, hf6, hx6⟩
         have z0 : w6.cell? ⟨w.heap.size, 0, none⟩ = some (.int .i64 17) := (hx6.cell (p := ⟨w.heap.size, 0, none⟩) hsz5).trans y0
         have z1 : w6.cell? ⟨w.heap.size, 1, none⟩ = some (.int .i64 x1) := (hx6.cell (p := ⟨w.heap.size, 1, none⟩) hsz5).trans y1
         have z2 : w6.cell? ⟨w.heap.size, 2, none⟩ = some (.int .i64 x2) := (hx6.cell (p := ⟨w.heap.size, 2, none⟩) hsz5).trans y2
         have z3 : w6.cell? ⟨w.heap.size, 3, none⟩ = some (.int .i64 x3) := (hx6.cell (p := ⟨w.heap.size, 3, none⟩) hsz5).trans y3
         have z4 : w6.cell? ⟨w.heap.size, 4, none⟩ = some (.int .u64 v) := (hx6.cell (p := ⟨w.heap.size, 4, none⟩) hsz5).trans y4
         have z5 : w6.cell? ⟨w.heap.size, 5, none⟩ = some (.int .i64 m) := (hx6.cell (p := ⟨w.heap.size, 5, none⟩) hsz5).trans y5
         have z6 : w6.cell? ⟨w.heap.size, 6, none⟩ = some (.int .i64 wh) := (hx6.cell (p := ⟨w.heap.size, 6, none⟩) hsz5).trans y6
         have z7 : w6.cell? ⟨b, o + 1 + x1.toNat, none⟩ = some (.int .u64 u) := (hx6.cell (p := ⟨b, o + 1 + x1.toNat, none⟩) lb5).trans y7
         have X6 := Lib.hid (X5.out.trans (hx6.mono X5.out.size))
         have FL := Lib.hid hf6
         clear hx6 hf6))
  have p6 := (HF.out.ext X6.out).pc
  clear z0 z1 z2 z3 z4 z5 z6 z7
  go_wp2_with (first | (go_at_call 15; refine (in_one vmS memS k (missN at_) 2 f6 _ FL.out).mono ?_; rintro e w7 ⟨v7, rfl, hv7, hx7⟩; have V7 := Lib.hid hv7; have X7 := Lib.hid (X6.out.trans (hx7.mono X6.out.size)); clear hv7 hx7))
  go_ret2
  exact ⟨_, rfl, V7.out, HF0.out.ext X7.out, X7.out⟩
set_option maxRecDepth 100000 in
set_option maxHeartbeats 8000000 in
theorem rmiss_18 (k : Nat) (at_ : Int) (x1 x2 x3 v m wh : Int) (hF : FrB M w b o k r bk) (hi : InsAt w bc off l) (hlen : l.length ≤ 1000000) (hk : k < l.length) (hx : l[k] = ⟨18, x1, x2, x3, v, m, wh⟩) (hv : rightF ⟨18, x1, x2, x3, v, 0, 0⟩ l.length true = true) (hrm : RMemAt w m2 c2 d2 cs ws ct) (ha0 : 0 ≤ x1) (ha1 : x1 < 32) (hxv : Rng v) (h0a : 0 ≤ at_) (hw : widthF ws at_ = 0)
    (hat : addressF r ⟨18, x1, x2, x3, v, m, wh⟩ = at_) :
    Calls Tryd.prog 11 #[.pointer (some ⟨b, o, none⟩), .slice (some ⟨bc, off, none⟩) l.length ccap, .pointer (some ⟨m2, 0, none⟩)] w (RMissPost M w b o k at_ r bk) := by
  have HF0 := Lib.hid hF
  obtain ⟨A2, cap, hFr, hB, hcap, hM⟩ := hF
  have h0 := hFr.pc
  obtain ⟨c0, c1, c2, c3, c4, c5, c6⟩ := hi k hk
  rw [hx] at c0 c1 c2 c3 c4 c5 c6
  have lb0 := World.block_lt_of_cell? _ _ h0
  have lb1 := World.block_lt_of_cell? _ _ c0
  have h1 : (k : Int) < (l.length : Int) := by omega
  have h2 : (0 : Int) ≤ (k : Int) := by omega
  have HV := Lib.hid hv
  have HF := Lib.hid hFr
  have HB := Lib.hid hB
  have HM := Lib.hid hM
  clear hFr hB hM hv hx hi
  simp only at c0 c1 c2 c3 c4 c5 c6
  have hr := HF.out.r x1.toNat (by omega)
  have HZ := Lib.hid (show ∀ W (S : Nat → Prop), Upto S w W → ¬ S b → W.frozen? ⟨b, o, none⟩ = false ∧ W.frozen? ⟨b, o + 1 + x1.toNat, none⟩ = false from fun W S hX hS => ⟨(HF.out.upto hX hS).fz0, by have h := (HF.out.upto hX hS).fz (1 + x1.toNat) (by omega); rw [← Nat.add_assoc] at h; exact h⟩)
  have HK := Lib.hid hat
  have HR := Lib.hid hrm
  clear hat hrm
  have RV := Lib.hid hxv
  have HW := Lib.hid hw
  clear hxv hw
  unfold RMissPost
  go_enter Tryd.func11, Tryd.ntmps11
  go_upto_region 48 with (first
      | (go_at_call 33; refine (right_any ⟨18, x1, x2, x3, v, 0, 0⟩ l.length _ (by omega) (by omega) _).mono ?_; rintro e w1 ⟨rfl, hb⟩; rw [HV.out]
         have hX : Ext w w1 := ((ext1 w _).alloc (by simp) _).trans (hb.mono (by simp; omega))
         have d0 := (hX.cell (p := ⟨b, o, none⟩) lb0).trans h0
         have t0 : w1.cell? ⟨w.heap.size, 0, none⟩ = some (.int .i64 18) := (hb.cell (p := ⟨w.heap.size, 0, none⟩) (by simp <;> omega)).trans (by simp)
         have t1 : w1.cell? ⟨w.heap.size, 1, none⟩ = some (.int .i64 x1) := (hb.cell (p := ⟨w.heap.size, 1, none⟩) (by simp <;> omega)).trans (by simp)
         have t2 : w1.cell? ⟨w.heap.size, 2, none⟩ = some (.int .i64 x2) := (hb.cell (p := ⟨w.heap.size, 2, none⟩) (by simp <;> omega)).trans (by simp)
         have t3 : w1.cell? ⟨w.heap.size, 3, none⟩ = some (.int .i64 x3) := (hb.cell (p := ⟨w.heap.size, 3, none⟩) (by simp <;> omega)).trans (by simp)
         have t4 : w1.cell? ⟨w.heap.size, 4, none⟩ = some (.int .u64 v) := (hb.cell (p := ⟨w.heap.size, 4, none⟩) (by simp <;> omega)).trans (by simp)
         have t5 : w1.cell? ⟨w.heap.size, 5, none⟩ = some (.int .i64 m) := (hb.cell (p := ⟨w.heap.size, 5, none⟩) (by simp <;> omega)).trans (by simp)
         have t6 : w1.cell? ⟨w.heap.size, 6, none⟩ = some (.int .i64 wh) := (hb.cell (p := ⟨w.heap.size, 6, none⟩) (by simp <;> omega)).trans (by simp)
         have hsz1 : w.heap.size < w1.heap.size := World.block_lt_of_cell? _ _ t0
         have X1 := Lib.hid hX
         clear hb hX h0))
  have r1 := (X1.out.cell (p := ⟨b, o + 1 + x1.toNat, none⟩) lb0).trans hr
  generalize r.getD x1.toNat 0 = u at r1
  clear hr c0 c1 c2 c3 c4 c5 c6
  go_quiet (fail)
  have EQ : ∀ p : Addr, (w1.drewN nq).cell? p = w1.cell? p := fun p => by simp
  rw [← EQ] at d0 t0 t1 t2 t3 t4 t5 t6 r1
  have XQn := Lib.hid (show Ext w (w1.drewN nq) from X1.out.trans ⟨rfl, rfl, rfl, Nat.le_refl _, fun _ _ => rfl⟩)
  have hszn : w.heap.size < (w1.drewN nq).heap.size := hsz1
  have lbn : b < (w1.drewN nq).heap.size := Nat.lt_of_lt_of_le lb0 XQn.out.size
  clear EQ X1 hsz1
  generalize w1.drewN nq = W1 at d0 t0 t1 t2 t3 t4 t5 t6 r1 XQn hszn lbn ⊢
  have XQ := Lib.hid XQn.out
  have hszW : w.heap.size < W1.heap.size := hszn
  have lbW : b < W1.heap.size := lbn
  clear XQn hszn lbn
  go_wp2_with fail
  have XD := Lib.hid (show Ext w W1.drew from XQ.out.drew)
  go_region_held3 (fun w' => w'.cell? ⟨w.heap.size, 0, none⟩ = some (.int .i64 18) ∧ w'.cell? ⟨w.heap.size, 1, none⟩ = some (.int .i64 x1) ∧ w'.cell? ⟨w.heap.size, 2, none⟩ = some (.int .i64 x2) ∧ w'.cell? ⟨w.heap.size, 3, none⟩ = some (.int .i64 x3) ∧ w'.cell? ⟨w.heap.size, 4, none⟩ = some (.int .u64 v) ∧ w'.cell? ⟨w.heap.size, 5, none⟩ = some (.int .i64 m) ∧ w'.cell? ⟨w.heap.size, 6, none⟩ = some (.int .i64 wh) ∧ w'.cell? ⟨b, o + 1 + x1.toNat, none⟩ = some (.int .u64 u))
    (first | exact ⟨t0, t1, t2, t3, t4, t5, t6, r1⟩ | exact ⟨y0, y1, y2, y3, y4, y5, y6, y7⟩ | exact ⟨z0, z1, z2, z3, z4, z5, z6, z7⟩)
    (first
      | (go_at_call 36; refine (accessF_any 18 (by omega) _).mono ?_; rintro e w' ⟨rfl, rfl⟩)
      | (go_at_call 37; refine (raddress_any b o k r A2 bk.length cap ⟨18, x1, x2, x3, v, m, wh⟩ _ (HF.out.ext XD.out) RV.out.1 RV.out.2).mono ?_; rintro e w5 ⟨rfl, hx5⟩; rw [HK.out]
         have y0 : w5.cell? ⟨w.heap.size, 0, none⟩ = some (.int .i64 18) := (hx5.cell (p := ⟨w.heap.size, 0, none⟩) hszW).trans t0
         have y1 : w5.cell? ⟨w.heap.size, 1, none⟩ = some (.int .i64 x1) := (hx5.cell (p := ⟨w.heap.size, 1, none⟩) hszW).trans t1
         have y2 : w5.cell? ⟨w.heap.size, 2, none⟩ = some (.int .i64 x2) := (hx5.cell (p := ⟨w.heap.size, 2, none⟩) hszW).trans t2
         have y3 : w5.cell? ⟨w.heap.size, 3, none⟩ = some (.int .i64 x3) := (hx5.cell (p := ⟨w.heap.size, 3, none⟩) hszW).trans t3
         have y4 : w5.cell? ⟨w.heap.size, 4, none⟩ = some (.int .u64 v) := (hx5.cell (p := ⟨w.heap.size, 4, none⟩) hszW).trans t4
         have y5 : w5.cell? ⟨w.heap.size, 5, none⟩ = some (.int .i64 m) := (hx5.cell (p := ⟨w.heap.size, 5, none⟩) hszW).trans t5
         have y6 : w5.cell? ⟨w.heap.size, 6, none⟩ = some (.int .i64 wh) := (hx5.cell (p := ⟨w.heap.size, 6, none⟩) hszW).trans t6
         have y7 : w5.cell? ⟨b, o + 1 + x1.toNat, none⟩ = some (.int .u64 u) := (hx5.cell (p := ⟨b, o + 1 + x1.toNat, none⟩) lbW).trans r1
         have X5 := Lib.hid (XD.out.trans (hx5.mono XD.out.size))
         have hsz5 : w.heap.size < w5.heap.size := Nat.lt_of_lt_of_le hszW hx5.size
         have lb5 : b < w5.heap.size := Nat.lt_of_lt_of_le lbW hx5.size
         clear hx5)
      | (go_at_call 24; refine (rdo_miss m2 c2 d2 cs ws ct _ _ at_ u _ (HR.out.ext X5.out) h0a HW.out).mono ?_; rintro e w6 ⟨f6, rfl, hf6, hx6⟩
         have z0 : w6.cell? ⟨w.heap.size, 0, none⟩ = some (.int .i64 18) := (hx6.cell (p := ⟨w.heap.size, 0, none⟩) hsz5).trans y0
         have z1 : w6.cell? ⟨w.heap.size, 1, none⟩ = some (.int .i64 x1) := (hx6.cell (p := ⟨w.heap.size, 1, none⟩) hsz5).trans y1
         have z2 : w6.cell? ⟨w.heap.size, 2, none⟩ = some (.int .i64 x2) := (hx6.cell (p := ⟨w.heap.size, 2, none⟩) hsz5).trans y2
         have z3 : w6.cell? ⟨w.heap.size, 3, none⟩ = some (.int .i64 x3) := (hx6.cell (p := ⟨w.heap.size, 3, none⟩) hsz5).trans y3
         have z4 : w6.cell? ⟨w.heap.size, 4, none⟩ = some (.int .u64 v) := (hx6.cell (p := ⟨w.heap.size, 4, none⟩) hsz5).trans y4
         have z5 : w6.cell? ⟨w.heap.size, 5, none⟩ = some (.int .i64 m) := (hx6.cell (p := ⟨w.heap.size, 5, none⟩) hsz5).trans y5
         have z6 : w6.cell? ⟨w.heap.size, 6, none⟩ = some (.int .i64 wh) := (hx6.cell (p := ⟨w.heap.size, 6, none⟩) hsz5).trans y6
         have z7 : w6.cell? ⟨b, o + 1 + x1.toNat, none⟩ = some (.int .u64 u) := (hx6.cell (p := ⟨b, o + 1 + x1.toNat, none⟩) lb5).trans y7
         have X6 := Lib.hid (X5.out.trans (hx6.mono X5.out.size))
         have FL := Lib.hid hf6
         clear hx6 hf6))
  have p6 := (HF.out.ext X6.out).pc
  clear z0 z1 z2 z3 z4 z5 z6 z7
  go_wp2_with (first | (go_at_call 15; refine (in_one vmS memS k (missN at_) 2 f6 _ FL.out).mono ?_; rintro e w7 ⟨v7, rfl, hv7, hx7⟩; have V7 := Lib.hid hv7; have X7 := Lib.hid (X6.out.trans (hx7.mono X6.out.size)); clear hv7 hx7))
  go_ret2
  exact ⟨_, rfl, V7.out, HF0.out.ext X7.out, X7.out⟩
set_option maxRecDepth 100000 in
set_option maxHeartbeats 8000000 in
theorem rmiss_19 (k : Nat) (at_ : Int) (x1 x2 x3 v m wh : Int) (hF : FrB M w b o k r bk) (hi : InsAt w bc off l) (hlen : l.length ≤ 1000000) (hk : k < l.length) (hx : l[k] = ⟨19, x1, x2, x3, v, m, wh⟩) (hv : rightF ⟨19, x1, x2, x3, v, 0, 0⟩ l.length true = true) (hrm : RMemAt w m2 c2 d2 cs ws ct) (ha0 : 0 ≤ x1) (ha1 : x1 < 32) (hxv : Rng v) (h0a : 0 ≤ at_) (hw : widthF ws at_ = 0)
    (hat : addressF r ⟨19, x1, x2, x3, v, m, wh⟩ = at_) :
    Calls Tryd.prog 11 #[.pointer (some ⟨b, o, none⟩), .slice (some ⟨bc, off, none⟩) l.length ccap, .pointer (some ⟨m2, 0, none⟩)] w (RMissPost M w b o k at_ r bk) := by
  have HF0 := Lib.hid hF
  obtain ⟨A2, cap, hFr, hB, hcap, hM⟩ := hF
  have h0 := hFr.pc
  obtain ⟨c0, c1, c2, c3, c4, c5, c6⟩ := hi k hk
  rw [hx] at c0 c1 c2 c3 c4 c5 c6
  have lb0 := World.block_lt_of_cell? _ _ h0
  have lb1 := World.block_lt_of_cell? _ _ c0
  have h1 : (k : Int) < (l.length : Int) := by omega
  have h2 : (0 : Int) ≤ (k : Int) := by omega
  have HV := Lib.hid hv
  have HF := Lib.hid hFr
  have HB := Lib.hid hB
  have HM := Lib.hid hM
  clear hFr hB hM hv hx hi
  simp only at c0 c1 c2 c3 c4 c5 c6
  have hr := HF.out.r x1.toNat (by omega)
  have HZ := Lib.hid (show ∀ W (S : Nat → Prop), Upto S w W → ¬ S b → W.frozen? ⟨b, o, none⟩ = false ∧ W.frozen? ⟨b, o + 1 + x1.toNat, none⟩ = false from fun W S hX hS => ⟨(HF.out.upto hX hS).fz0, by have h := (HF.out.upto hX hS).fz (1 + x1.toNat) (by omega); rw [← Nat.add_assoc] at h; exact h⟩)
  have HK := Lib.hid hat
  have HR := Lib.hid hrm
  clear hat hrm
  have RV := Lib.hid hxv
  have HW := Lib.hid hw
  clear hxv hw
  unfold RMissPost
  go_enter Tryd.func11, Tryd.ntmps11
  go_upto_region 48 with (first
      | (go_at_call 33; refine (right_any ⟨19, x1, x2, x3, v, 0, 0⟩ l.length _ (by omega) (by omega) _).mono ?_; rintro e w1 ⟨rfl, hb⟩; rw [HV.out]
         have hX : Ext w w1 := ((ext1 w _).alloc (by simp) _).trans (hb.mono (by simp; omega))
         have d0 := (hX.cell (p := ⟨b, o, none⟩) lb0).trans h0
         have t0 : w1.cell? ⟨w.heap.size, 0, none⟩ = some (.int .i64 19) := (hb.cell (p := ⟨w.heap.size, 0, none⟩) (by simp <;> omega)).trans (by simp)
         have t1 : w1.cell? ⟨w.heap.size, 1, none⟩ = some (.int .i64 x1) := (hb.cell (p := ⟨w.heap.size, 1, none⟩) (by simp <;> omega)).trans (by simp)
         have t2 : w1.cell? ⟨w.heap.size, 2, none⟩ = some (.int .i64 x2) := (hb.cell (p := ⟨w.heap.size, 2, none⟩) (by simp <;> omega)).trans (by simp)
         have t3 : w1.cell? ⟨w.heap.size, 3, none⟩ = some (.int .i64 x3) := (hb.cell (p := ⟨w.heap.size, 3, none⟩) (by simp <;> omega)).trans (by simp)
         have t4 : w1.cell? ⟨w.heap.size, 4, none⟩ = some (.int .u64 v) := (hb.cell (p := ⟨w.heap.size, 4, none⟩) (by simp <;> omega)).trans (by simp)
         have t5 : w1.cell? ⟨w.heap.size, 5, none⟩ = some (.int .i64 m) := (hb.cell (p := ⟨w.heap.size, 5, none⟩) (by simp <;> omega)).trans (by simp)
         have t6 : w1.cell? ⟨w.heap.size, 6, none⟩ = some (.int .i64 wh) := (hb.cell (p := ⟨w.heap.size, 6, none⟩) (by simp <;> omega)).trans (by simp)
         have hsz1 : w.heap.size < w1.heap.size := World.block_lt_of_cell? _ _ t0
         have X1 := Lib.hid hX
         clear hb hX h0))
  have r1 := (X1.out.cell (p := ⟨b, o + 1 + x1.toNat, none⟩) lb0).trans hr
  generalize r.getD x1.toNat 0 = u at r1
  clear hr c0 c1 c2 c3 c4 c5 c6
  go_quiet (fail)
  have EQ : ∀ p : Addr, (w1.drewN nq).cell? p = w1.cell? p := fun p => by simp
  rw [← EQ] at d0 t0 t1 t2 t3 t4 t5 t6 r1
  have XQn := Lib.hid (show Ext w (w1.drewN nq) from X1.out.trans ⟨rfl, rfl, rfl, Nat.le_refl _, fun _ _ => rfl⟩)
  have hszn : w.heap.size < (w1.drewN nq).heap.size := hsz1
  have lbn : b < (w1.drewN nq).heap.size := Nat.lt_of_lt_of_le lb0 XQn.out.size
  clear EQ X1 hsz1
  generalize w1.drewN nq = W1 at d0 t0 t1 t2 t3 t4 t5 t6 r1 XQn hszn lbn ⊢
  have XQ := Lib.hid XQn.out
  have hszW : w.heap.size < W1.heap.size := hszn
  have lbW : b < W1.heap.size := lbn
  clear XQn hszn lbn
  go_wp2_with fail
  have XD := Lib.hid (show Ext w W1.drew from XQ.out.drew)
  go_region_held3 (fun w' => w'.cell? ⟨w.heap.size, 0, none⟩ = some (.int .i64 19) ∧ w'.cell? ⟨w.heap.size, 1, none⟩ = some (.int .i64 x1) ∧ w'.cell? ⟨w.heap.size, 2, none⟩ = some (.int .i64 x2) ∧ w'.cell? ⟨w.heap.size, 3, none⟩ = some (.int .i64 x3) ∧ w'.cell? ⟨w.heap.size, 4, none⟩ = some (.int .u64 v) ∧ w'.cell? ⟨w.heap.size, 5, none⟩ = some (.int .i64 m) ∧ w'.cell? ⟨w.heap.size, 6, none⟩ = some (.int .i64 wh) ∧ w'.cell? ⟨b, o + 1 + x1.toNat, none⟩ = some (.int .u64 u))
    (first | exact ⟨t0, t1, t2, t3, t4, t5, t6, r1⟩ | exact ⟨y0, y1, y2, y3, y4, y5, y6, y7⟩ | exact ⟨z0, z1, z2, z3, z4, z5, z6, z7⟩)
    (first
      | (go_at_call 36; refine (accessF_any 19 (by omega) _).mono ?_; rintro e w' ⟨rfl, rfl⟩)
      | (go_at_call 37; refine (raddress_any b o k r A2 bk.length cap ⟨19, x1, x2, x3, v, m, wh⟩ _ (HF.out.ext XD.out) RV.out.1 RV.out.2).mono ?_; rintro e w5 ⟨rfl, hx5⟩; rw [HK.out]
         have y0 : w5.cell? ⟨w.heap.size, 0, none⟩ = some (.int .i64 19) := (hx5.cell (p := ⟨w.heap.size, 0, none⟩) hszW).trans t0
         have y1 : w5.cell? ⟨w.heap.size, 1, none⟩ = some (.int .i64 x1) := (hx5.cell (p := ⟨w.heap.size, 1, none⟩) hszW).trans t1
         have y2 : w5.cell? ⟨w.heap.size, 2, none⟩ = some (.int .i64 x2) := (hx5.cell (p := ⟨w.heap.size, 2, none⟩) hszW).trans t2
         have y3 : w5.cell? ⟨w.heap.size, 3, none⟩ = some (.int .i64 x3) := (hx5.cell (p := ⟨w.heap.size, 3, none⟩) hszW).trans t3
         have y4 : w5.cell? ⟨w.heap.size, 4, none⟩ = some (.int .u64 v) := (hx5.cell (p := ⟨w.heap.size, 4, none⟩) hszW).trans t4
         have y5 : w5.cell? ⟨w.heap.size, 5, none⟩ = some (.int .i64 m) := (hx5.cell (p := ⟨w.heap.size, 5, none⟩) hszW).trans t5
         have y6 : w5.cell? ⟨w.heap.size, 6, none⟩ = some (.int .i64 wh) := (hx5.cell (p := ⟨w.heap.size, 6, none⟩) hszW).trans t6
         have y7 : w5.cell? ⟨b, o + 1 + x1.toNat, none⟩ = some (.int .u64 u) := (hx5.cell (p := ⟨b, o + 1 + x1.toNat, none⟩) lbW).trans r1
         have X5 := Lib.hid (XD.out.trans (hx5.mono XD.out.size))
         have hsz5 : w.heap.size < w5.heap.size := Nat.lt_of_lt_of_le hszW hx5.size
         have lb5 : b < w5.heap.size := Nat.lt_of_lt_of_le lbW hx5.size
         clear hx5)
      | (go_at_call 24; refine (rdo_miss m2 c2 d2 cs ws ct _ _ at_ u _ (HR.out.ext X5.out) h0a HW.out).mono ?_; rintro e w6 ⟨f6, rfl, hf6, hx6⟩
         have z0 : w6.cell? ⟨w.heap.size, 0, none⟩ = some (.int .i64 19) := (hx6.cell (p := ⟨w.heap.size, 0, none⟩) hsz5).trans y0
         have z1 : w6.cell? ⟨w.heap.size, 1, none⟩ = some (.int .i64 x1) := (hx6.cell (p := ⟨w.heap.size, 1, none⟩) hsz5).trans y1
         have z2 : w6.cell? ⟨w.heap.size, 2, none⟩ = some (.int .i64 x2) := (hx6.cell (p := ⟨w.heap.size, 2, none⟩) hsz5).trans y2
         have z3 : w6.cell? ⟨w.heap.size, 3, none⟩ = some (.int .i64 x3) := (hx6.cell (p := ⟨w.heap.size, 3, none⟩) hsz5).trans y3
         have z4 : w6.cell? ⟨w.heap.size, 4, none⟩ = some (.int .u64 v) := (hx6.cell (p := ⟨w.heap.size, 4, none⟩) hsz5).trans y4
         have z5 : w6.cell? ⟨w.heap.size, 5, none⟩ = some (.int .i64 m) := (hx6.cell (p := ⟨w.heap.size, 5, none⟩) hsz5).trans y5
         have z6 : w6.cell? ⟨w.heap.size, 6, none⟩ = some (.int .i64 wh) := (hx6.cell (p := ⟨w.heap.size, 6, none⟩) hsz5).trans y6
         have z7 : w6.cell? ⟨b, o + 1 + x1.toNat, none⟩ = some (.int .u64 u) := (hx6.cell (p := ⟨b, o + 1 + x1.toNat, none⟩) lb5).trans y7
         have X6 := Lib.hid (X5.out.trans (hx6.mono X5.out.size))
         have FL := Lib.hid hf6
         clear hx6 hf6))
  have p6 := (HF.out.ext X6.out).pc
  clear z0 z1 z2 z3 z4 z5 z6 z7
  go_wp2_with (first | (go_at_call 15; refine (in_one vmS memS k (missN at_) 2 f6 _ FL.out).mono ?_; rintro e w7 ⟨v7, rfl, hv7, hx7⟩; have V7 := Lib.hid hv7; have X7 := Lib.hid (X6.out.trans (hx7.mono X6.out.size)); clear hv7 hx7))
  go_ret2
  exact ⟨_, rfl, V7.out, HF0.out.ext X7.out, X7.out⟩
set_option maxRecDepth 100000 in
set_option maxHeartbeats 8000000 in
theorem rmiss_20 (k : Nat) (at_ : Int) (x1 x2 x3 v m wh : Int) (hF : FrB M w b o k r bk) (hi : InsAt w bc off l) (hlen : l.length ≤ 1000000) (hk : k < l.length) (hx : l[k] = ⟨20, x1, x2, x3, v, m, wh⟩) (hv : rightF ⟨20, x1, x2, x3, v, 0, 0⟩ l.length true = true) (hrm : RMemAt w m2 c2 d2 cs ws ct) (ha0 : 0 ≤ x1) (ha1 : x1 < 32) (hxv : Rng v) (h0a : 0 ≤ at_) (hw : widthF ws at_ = 0)
    (hat : addressF r ⟨20, x1, x2, x3, v, m, wh⟩ = at_) :
    Calls Tryd.prog 11 #[.pointer (some ⟨b, o, none⟩), .slice (some ⟨bc, off, none⟩) l.length ccap, .pointer (some ⟨m2, 0, none⟩)] w (RMissPost M w b o k at_ r bk) := by
  have HF0 := Lib.hid hF
  obtain ⟨A2, cap, hFr, hB, hcap, hM⟩ := hF
  have h0 := hFr.pc
  obtain ⟨c0, c1, c2, c3, c4, c5, c6⟩ := hi k hk
  rw [hx] at c0 c1 c2 c3 c4 c5 c6
  have lb0 := World.block_lt_of_cell? _ _ h0
  have lb1 := World.block_lt_of_cell? _ _ c0
  have h1 : (k : Int) < (l.length : Int) := by omega
  have h2 : (0 : Int) ≤ (k : Int) := by omega
  have HV := Lib.hid hv
  have HF := Lib.hid hFr
  have HB := Lib.hid hB
  have HM := Lib.hid hM
  clear hFr hB hM hv hx hi
  simp only at c0 c1 c2 c3 c4 c5 c6
  have hr := HF.out.r x1.toNat (by omega)
  have HZ := Lib.hid (show ∀ W (S : Nat → Prop), Upto S w W → ¬ S b → W.frozen? ⟨b, o, none⟩ = false ∧ W.frozen? ⟨b, o + 1 + x1.toNat, none⟩ = false from fun W S hX hS => ⟨(HF.out.upto hX hS).fz0, by have h := (HF.out.upto hX hS).fz (1 + x1.toNat) (by omega); rw [← Nat.add_assoc] at h; exact h⟩)
  have HK := Lib.hid hat
  have HR := Lib.hid hrm
  clear hat hrm
  have RV := Lib.hid hxv
  have HW := Lib.hid hw
  clear hxv hw
  unfold RMissPost
  go_enter Tryd.func11, Tryd.ntmps11
  go_upto_region 48 with (first
      | (go_at_call 33; refine (right_any ⟨20, x1, x2, x3, v, 0, 0⟩ l.length _ (by omega) (by omega) _).mono ?_; rintro e w1 ⟨rfl, hb⟩; rw [HV.out]
         have hX : Ext w w1 := ((ext1 w _).alloc (by simp) _).trans (hb.mono (by simp; omega))
         have d0 := (hX.cell (p := ⟨b, o, none⟩) lb0).trans h0
         have t0 : w1.cell? ⟨w.heap.size, 0, none⟩ = some (.int .i64 20) := (hb.cell (p := ⟨w.heap.size, 0, none⟩) (by simp <;> omega)).trans (by simp)
         have t1 : w1.cell? ⟨w.heap.size, 1, none⟩ = some (.int .i64 x1) := (hb.cell (p := ⟨w.heap.size, 1, none⟩) (by simp <;> omega)).trans (by simp)
         have t2 : w1.cell? ⟨w.heap.size, 2, none⟩ = some (.int .i64 x2) := (hb.cell (p := ⟨w.heap.size, 2, none⟩) (by simp <;> omega)).trans (by simp)
         have t3 : w1.cell? ⟨w.heap.size, 3, none⟩ = some (.int .i64 x3) := (hb.cell (p := ⟨w.heap.size, 3, none⟩) (by simp <;> omega)).trans (by simp)
         have t4 : w1.cell? ⟨w.heap.size, 4, none⟩ = some (.int .u64 v) := (hb.cell (p := ⟨w.heap.size, 4, none⟩) (by simp <;> omega)).trans (by simp)
         have t5 : w1.cell? ⟨w.heap.size, 5, none⟩ = some (.int .i64 m) := (hb.cell (p := ⟨w.heap.size, 5, none⟩) (by simp <;> omega)).trans (by simp)
         have t6 : w1.cell? ⟨w.heap.size, 6, none⟩ = some (.int .i64 wh) := (hb.cell (p := ⟨w.heap.size, 6, none⟩) (by simp <;> omega)).trans (by simp)
         have hsz1 : w.heap.size < w1.heap.size := World.block_lt_of_cell? _ _ t0
         have X1 := Lib.hid hX
         clear hb hX h0))
  have r1 := (X1.out.cell (p := ⟨b, o + 1 + x1.toNat, none⟩) lb0).trans hr
  generalize r.getD x1.toNat 0 = u at r1
  clear hr c0 c1 c2 c3 c4 c5 c6
  go_quiet (fail)
  have EQ : ∀ p : Addr, (w1.drewN nq).cell? p = w1.cell? p := fun p => by simp
  rw [← EQ] at d0 t0 t1 t2 t3 t4 t5 t6 r1
  have XQn := Lib.hid (show Ext w (w1.drewN nq) from X1.out.trans ⟨rfl, rfl, rfl, Nat.le_refl _, fun _ _ => rfl⟩)
  have hszn : w.heap.size < (w1.drewN nq).heap.size := hsz1
  have lbn : b < (w1.drewN nq).heap.size := Nat.lt_of_lt_of_le lb0 XQn.out.size
  clear EQ X1 hsz1
  generalize w1.drewN nq = W1 at d0 t0 t1 t2 t3 t4 t5 t6 r1 XQn hszn lbn ⊢
  have XQ := Lib.hid XQn.out
  have hszW : w.heap.size < W1.heap.size := hszn
  have lbW : b < W1.heap.size := lbn
  clear XQn hszn lbn
  go_wp2_with fail
  have XD := Lib.hid (show Ext w W1.drew from XQ.out.drew)
  go_region_held3 (fun w' => w'.cell? ⟨w.heap.size, 0, none⟩ = some (.int .i64 20) ∧ w'.cell? ⟨w.heap.size, 1, none⟩ = some (.int .i64 x1) ∧ w'.cell? ⟨w.heap.size, 2, none⟩ = some (.int .i64 x2) ∧ w'.cell? ⟨w.heap.size, 3, none⟩ = some (.int .i64 x3) ∧ w'.cell? ⟨w.heap.size, 4, none⟩ = some (.int .u64 v) ∧ w'.cell? ⟨w.heap.size, 5, none⟩ = some (.int .i64 m) ∧ w'.cell? ⟨w.heap.size, 6, none⟩ = some (.int .i64 wh) ∧ w'.cell? ⟨b, o + 1 + x1.toNat, none⟩ = some (.int .u64 u))
    (first | exact ⟨t0, t1, t2, t3, t4, t5, t6, r1⟩ | exact ⟨y0, y1, y2, y3, y4, y5, y6, y7⟩ | exact ⟨z0, z1, z2, z3, z4, z5, z6, z7⟩)
    (first
      | (go_at_call 36; refine (accessF_any 20 (by omega) _).mono ?_; rintro e w' ⟨rfl, rfl⟩)
      | (go_at_call 37; refine (raddress_any b o k r A2 bk.length cap ⟨20, x1, x2, x3, v, m, wh⟩ _ (HF.out.ext XD.out) RV.out.1 RV.out.2).mono ?_; rintro e w5 ⟨rfl, hx5⟩; rw [HK.out]
         have y0 : w5.cell? ⟨w.heap.size, 0, none⟩ = some (.int .i64 20) := (hx5.cell (p := ⟨w.heap.size, 0, none⟩) hszW).trans t0
         have y1 : w5.cell? ⟨w.heap.size, 1, none⟩ = some (.int .i64 x1) := (hx5.cell (p := ⟨w.heap.size, 1, none⟩) hszW).trans t1
         have y2 : w5.cell? ⟨w.heap.size, 2, none⟩ = some (.int .i64 x2) := (hx5.cell (p := ⟨w.heap.size, 2, none⟩) hszW).trans t2
         have y3 : w5.cell? ⟨w.heap.size, 3, none⟩ = some (.int .i64 x3) := (hx5.cell (p := ⟨w.heap.size, 3, none⟩) hszW).trans t3
         have y4 : w5.cell? ⟨w.heap.size, 4, none⟩ = some (.int .u64 v) := (hx5.cell (p := ⟨w.heap.size, 4, none⟩) hszW).trans t4
         have y5 : w5.cell? ⟨w.heap.size, 5, none⟩ = some (.int .i64 m) := (hx5.cell (p := ⟨w.heap.size, 5, none⟩) hszW).trans t5
         have y6 : w5.cell? ⟨w.heap.size, 6, none⟩ = some (.int .i64 wh) := (hx5.cell (p := ⟨w.heap.size, 6, none⟩) hszW).trans t6
         have y7 : w5.cell? ⟨b, o + 1 + x1.toNat, none⟩ = some (.int .u64 u) := (hx5.cell (p := ⟨b, o + 1 + x1.toNat, none⟩) lbW).trans r1
         have X5 := Lib.hid (XD.out.trans (hx5.mono XD.out.size))
         have hsz5 : w.heap.size < w5.heap.size := Nat.lt_of_lt_of_le hszW hx5.size
         have lb5 : b < w5.heap.size := Nat.lt_of_lt_of_le lbW hx5.size
         clear hx5)
      | (go_at_call 24; refine (rdo_miss m2 c2 d2 cs ws ct _ _ at_ u _ (HR.out.ext X5.out) h0a HW.out).mono ?_; rintro e w6 ⟨f6, rfl, hf6, hx6⟩
         have z0 : w6.cell? ⟨w.heap.size, 0, none⟩ = some (.int .i64 20) := (hx6.cell (p := ⟨w.heap.size, 0, none⟩) hsz5).trans y0
         have z1 : w6.cell? ⟨w.heap.size, 1, none⟩ = some (.int .i64 x1) := (hx6.cell (p := ⟨w.heap.size, 1, none⟩) hsz5).trans y1
         have z2 : w6.cell? ⟨w.heap.size, 2, none⟩ = some (.int .i64 x2) := (hx6.cell (p := ⟨w.heap.size, 2, none⟩) hsz5).trans y2
         have z3 : w6.cell? ⟨w.heap.size, 3, none⟩ = some (.int .i64 x3) := (hx6.cell (p := ⟨w.heap.size, 3, none⟩) hsz5).trans y3
         have z4 : w6.cell? ⟨w.heap.size, 4, none⟩ = some (.int .u64 v) := (hx6.cell (p := ⟨w.heap.size, 4, none⟩) hsz5).trans y4
         have z5 : w6.cell? ⟨w.heap.size, 5, none⟩ = some (.int .i64 m) := (hx6.cell (p := ⟨w.heap.size, 5, none⟩) hsz5).trans y5
         have z6 : w6.cell? ⟨w.heap.size, 6, none⟩ = some (.int .i64 wh) := (hx6.cell (p := ⟨w.heap.size, 6, none⟩) hsz5).trans y6
         have z7 : w6.cell? ⟨b, o + 1 + x1.toNat, none⟩ = some (.int .u64 u) := (hx6.cell (p := ⟨b, o + 1 + x1.toNat, none⟩) lb5).trans y7
         have X6 := Lib.hid (X5.out.trans (hx6.mono X5.out.size))
         have FL := Lib.hid hf6
         clear hx6 hf6))
  have p6 := (HF.out.ext X6.out).pc
  clear z0 z1 z2 z3 z4 z5 z6 z7
  go_wp2_with (first | (go_at_call 15; refine (in_one vmS memS k (missN at_) 2 f6 _ FL.out).mono ?_; rintro e w7 ⟨v7, rfl, hv7, hx7⟩; have V7 := Lib.hid hv7; have X7 := Lib.hid (X6.out.trans (hx7.mono X6.out.size)); clear hv7 hx7))
  go_ret2
  exact ⟨_, rfl, V7.out, HF0.out.ext X7.out, X7.out⟩
set_option maxRecDepth 100000 in
set_option maxHeartbeats 8000000 in
theorem rmiss_21 (k : Nat) (at_ : Int) (x1 x2 x3 v m wh : Int) (hF : FrB M w b o k r bk) (hi : InsAt w bc off l) (hlen : l.length ≤ 1000000) (hk : k < l.length) (hx : l[k] = ⟨21, x1, x2, x3, v, m, wh⟩) (hv : rightF ⟨21, x1, x2, x3, v, 0, 0⟩ l.length true = true) (hrm : RMemAt w m2 c2 d2 cs ws ct) (ha0 : 0 ≤ x1) (ha1 : x1 < 32) (hb0 : 0 ≤ x3) (hb1 : x3 < 32) (hxv : Rng v) (h0a : 0 ≤ at_) (hw : widthF ws at_ = 0)
    (hat : addressF r ⟨21, x1, x2, x3, v, m, wh⟩ = at_) :
    Calls Tryd.prog 11 #[.pointer (some ⟨b, o, none⟩), .slice (some ⟨bc, off, none⟩) l.length ccap, .pointer (some ⟨m2, 0, none⟩)] w (RMissPost M w b o k at_ r bk) := by
  have HF0 := Lib.hid hF
  obtain ⟨A2, cap, hFr, hB, hcap, hM⟩ := hF
  have h0 := hFr.pc
  obtain ⟨c0, c1, c2, c3, c4, c5, c6⟩ := hi k hk
  rw [hx] at c0 c1 c2 c3 c4 c5 c6
  have lb0 := World.block_lt_of_cell? _ _ h0
  have lb1 := World.block_lt_of_cell? _ _ c0
  have h1 : (k : Int) < (l.length : Int) := by omega
  have h2 : (0 : Int) ≤ (k : Int) := by omega
  have HV := Lib.hid hv
  have HF := Lib.hid hFr
  have HB := Lib.hid hB
  have HM := Lib.hid hM
  clear hFr hB hM hv hx hi
  simp only at c0 c1 c2 c3 c4 c5 c6
  have hr := HF.out.r x1.toNat (by omega)
  have hr3 := HF.out.r x3.toNat (by omega)
  have HZ := Lib.hid (show ∀ W (S : Nat → Prop), Upto S w W → ¬ S b → W.frozen? ⟨b, o, none⟩ = false ∧ W.frozen? ⟨b, o + 1 + x1.toNat, none⟩ = false from fun W S hX hS => ⟨(HF.out.upto hX hS).fz0, by have h := (HF.out.upto hX hS).fz (1 + x1.toNat) (by omega); rw [← Nat.add_assoc] at h; exact h⟩)
  have HK := Lib.hid hat
  have HR := Lib.hid hrm
  clear hat hrm
  have RV := Lib.hid hxv
  have HW := Lib.hid hw
  clear hxv hw
  unfold RMissPost
  go_enter Tryd.func11, Tryd.ntmps11
  go_upto_region 48 with (first
      | (go_at_call 33; refine (right_any ⟨21, x1, x2, x3, v, 0, 0⟩ l.length _ (by omega) (by omega) _).mono ?_; rintro e w1 ⟨rfl, hb⟩; rw [HV.out]
         have hX : Ext w w1 := ((ext1 w _).alloc (by simp) _).trans (hb.mono (by simp; omega))
         have d0 := (hX.cell (p := ⟨b, o, none⟩) lb0).trans h0
         have t0 : w1.cell? ⟨w.heap.size, 0, none⟩ = some (.int .i64 21) := (hb.cell (p := ⟨w.heap.size, 0, none⟩) (by simp <;> omega)).trans (by simp)
         have t1 : w1.cell? ⟨w.heap.size, 1, none⟩ = some (.int .i64 x1) := (hb.cell (p := ⟨w.heap.size, 1, none⟩) (by simp <;> omega)).trans (by simp)
         have t2 : w1.cell? ⟨w.heap.size, 2, none⟩ = some (.int .i64 x2) := (hb.cell (p := ⟨w.heap.size, 2, none⟩) (by simp <;> omega)).trans (by simp)
         have t3 : w1.cell? ⟨w.heap.size, 3, none⟩ = some (.int .i64 x3) := (hb.cell (p := ⟨w.heap.size, 3, none⟩) (by simp <;> omega)).trans (by simp)
         have t4 : w1.cell? ⟨w.heap.size, 4, none⟩ = some (.int .u64 v) := (hb.cell (p := ⟨w.heap.size, 4, none⟩) (by simp <;> omega)).trans (by simp)
         have t5 : w1.cell? ⟨w.heap.size, 5, none⟩ = some (.int .i64 m) := (hb.cell (p := ⟨w.heap.size, 5, none⟩) (by simp <;> omega)).trans (by simp)
         have t6 : w1.cell? ⟨w.heap.size, 6, none⟩ = some (.int .i64 wh) := (hb.cell (p := ⟨w.heap.size, 6, none⟩) (by simp <;> omega)).trans (by simp)
         have hsz1 : w.heap.size < w1.heap.size := World.block_lt_of_cell? _ _ t0
         have X1 := Lib.hid hX
         clear hb hX h0))
  have r1 := (X1.out.cell (p := ⟨b, o + 1 + x1.toNat, none⟩) lb0).trans hr
  have r3 := (X1.out.cell (p := ⟨b, o + 1 + x3.toNat, none⟩) lb0).trans hr3
  generalize r.getD x3.toNat 0 = u3 at r3
  generalize r.getD x1.toNat 0 = u at r1
  clear hr c0 c1 c2 c3 c4 c5 c6 hr3
  go_quiet (fail)
  have EQ : ∀ p : Addr, (w1.drewN nq).cell? p = w1.cell? p := fun p => by simp
  rw [← EQ] at d0 t0 t1 t2 t3 t4 t5 t6 r1 r3
  have XQn := Lib.hid (show Ext w (w1.drewN nq) from X1.out.trans ⟨rfl, rfl, rfl, Nat.le_refl _, fun _ _ => rfl⟩)
  have hszn : w.heap.size < (w1.drewN nq).heap.size := hsz1
  have lbn : b < (w1.drewN nq).heap.size := Nat.lt_of_lt_of_le lb0 XQn.out.size
  clear EQ X1 hsz1
  generalize w1.drewN nq = W1 at d0 t0 t1 t2 t3 t4 t5 t6 r1 r3 XQn hszn lbn ⊢
  have XQ := Lib.hid XQn.out
  have hszW : w.heap.size < W1.heap.size := hszn
  have lbW : b < W1.heap.size := lbn
  clear XQn hszn lbn
  go_wp2_with fail
  go_quiet (fail)
  have EQ : ∀ p : Addr, (W1.drewN nq).cell? p = W1.cell? p := fun p => by simp
  rw [← EQ] at d0 t0 t1 t2 t3 t4 t5 t6 r1 r3
  have XQn := Lib.hid (show Ext w (W1.drewN nq) from XQ.out.trans ⟨rfl, rfl, rfl, Nat.le_refl _, fun _ _ => rfl⟩)
  have hszn : w.heap.size < (W1.drewN nq).heap.size := hszW
  have lbn : b < (W1.drewN nq).heap.size := Nat.lt_of_lt_of_le lb0 XQn.out.size
  clear EQ XQ hszW lbW
  generalize W1.drewN nq = W2 at d0 t0 t1 t2 t3 t4 t5 t6 r1 r3 XQn hszn lbn ⊢
  have XQ := Lib.hid XQn.out
  have hszW : w.heap.size < W2.heap.size := hszn
  have lbW : b < W2.heap.size := lbn
  clear XQn hszn lbn
  go_wp2_with fail
  have XD := Lib.hid (show Ext w W2.drew from XQ.out.drew)
  go_region_held3 (fun w' => w'.cell? ⟨w.heap.size, 0, none⟩ = some (.int .i64 21) ∧ w'.cell? ⟨w.heap.size, 1, none⟩ = some (.int .i64 x1) ∧ w'.cell? ⟨w.heap.size, 2, none⟩ = some (.int .i64 x2) ∧ w'.cell? ⟨w.heap.size, 3, none⟩ = some (.int .i64 x3) ∧ w'.cell? ⟨w.heap.size, 4, none⟩ = some (.int .u64 v) ∧ w'.cell? ⟨w.heap.size, 5, none⟩ = some (.int .i64 m) ∧ w'.cell? ⟨w.heap.size, 6, none⟩ = some (.int .i64 wh) ∧ w'.cell? ⟨b, o + 1 + x1.toNat, none⟩ = some (.int .u64 u))
    (first | exact ⟨t0, t1, t2, t3, t4, t5, t6, r1⟩ | exact ⟨y0, y1, y2, y3, y4, y5, y6, y7⟩ | exact ⟨z0, z1, z2, z3, z4, z5, z6, z7⟩)
    (first
      | (go_at_call 36; refine (accessF_any 21 (by omega) _).mono ?_; rintro e w' ⟨rfl, rfl⟩)
      | (go_at_call 37; refine (raddress_any b o k r A2 bk.length cap ⟨21, x1, x2, x3, v, m, wh⟩ _ (HF.out.ext XD.out) RV.out.1 RV.out.2).mono ?_; rintro e w5 ⟨rfl, hx5⟩; rw [HK.out]
         have y0 : w5.cell? ⟨w.heap.size, 0, none⟩ = some (.int .i64 21) := (hx5.cell (p := ⟨w.heap.size, 0, none⟩) hszW).trans t0
         have y1 : w5.cell? ⟨w.heap.size, 1, none⟩ = some (.int .i64 x1) := (hx5.cell (p := ⟨w.heap.size, 1, none⟩) hszW).trans t1
         have y2 : w5.cell? ⟨w.heap.size, 2, none⟩ = some (.int .i64 x2) := (hx5.cell (p := ⟨w.heap.size, 2, none⟩) hszW).trans t2
         have y3 : w5.cell? ⟨w.heap.size, 3, none⟩ = some (.int .i64 x3) := (hx5.cell (p := ⟨w.heap.size, 3, none⟩) hszW).trans t3
         have y4 : w5.cell? ⟨w.heap.size, 4, none⟩ = some (.int .u64 v) := (hx5.cell (p := ⟨w.heap.size, 4, none⟩) hszW).trans t4
         have y5 : w5.cell? ⟨w.heap.size, 5, none⟩ = some (.int .i64 m) := (hx5.cell (p := ⟨w.heap.size, 5, none⟩) hszW).trans t5
         have y6 : w5.cell? ⟨w.heap.size, 6, none⟩ = some (.int .i64 wh) := (hx5.cell (p := ⟨w.heap.size, 6, none⟩) hszW).trans t6
         have y7 : w5.cell? ⟨b, o + 1 + x1.toNat, none⟩ = some (.int .u64 u) := (hx5.cell (p := ⟨b, o + 1 + x1.toNat, none⟩) lbW).trans r1
         have X5 := Lib.hid (XD.out.trans (hx5.mono XD.out.size))
         have hsz5 : w.heap.size < w5.heap.size := Nat.lt_of_lt_of_le hszW hx5.size
         have lb5 : b < w5.heap.size := Nat.lt_of_lt_of_le lbW hx5.size
         clear hx5)
      | (go_at_call 24; refine (rdo_miss m2 c2 d2 cs ws ct _ _ at_ u _ (HR.out.ext X5.out) h0a HW.out).mono ?_; rintro e w6 ⟨f6, rfl, hf6, hx6⟩
         have z0 : w6.cell? ⟨w.heap.size, 0, none⟩ = some (.int .i64 21) := (hx6.cell (p := ⟨w.heap.size, 0, none⟩) hsz5).trans y0
         have z1 : w6.cell? ⟨w.heap.size, 1, none⟩ = some (.int .i64 x1) := (hx6.cell (p := ⟨w.heap.size, 1, none⟩) hsz5).trans y1
         have z2 : w6.cell? ⟨w.heap.size, 2, none⟩ = some (.int .i64 x2) := (hx6.cell (p := ⟨w.heap.size, 2, none⟩) hsz5).trans y2
         have z3 : w6.cell? ⟨w.heap.size, 3, none⟩ = some (.int .i64 x3) := (hx6.cell (p := ⟨w.heap.size, 3, none⟩) hsz5).trans y3
         have z4 : w6.cell? ⟨w.heap.size, 4, none⟩ = some (.int .u64 v) := (hx6.cell (p := ⟨w.heap.size, 4, none⟩) hsz5).trans y4
         have z5 : w6.cell? ⟨w.heap.size, 5, none⟩ = some (.int .i64 m) := (hx6.cell (p := ⟨w.heap.size, 5, none⟩) hsz5).trans y5
         have z6 : w6.cell? ⟨w.heap.size, 6, none⟩ = some (.int .i64 wh) := (hx6.cell (p := ⟨w.heap.size, 6, none⟩) hsz5).trans y6
         have z7 : w6.cell? ⟨b, o + 1 + x1.toNat, none⟩ = some (.int .u64 u) := (hx6.cell (p := ⟨b, o + 1 + x1.toNat, none⟩) lb5).trans y7
         have X6 := Lib.hid (X5.out.trans (hx6.mono X5.out.size))
         have FL := Lib.hid hf6
         clear hx6 hf6))
  have p6 := (HF.out.ext X6.out).pc
  clear z0 z1 z2 z3 z4 z5 z6 z7
  go_wp2_with (first | (go_at_call 15; refine (in_one vmS memS k (missN at_) 2 f6 _ FL.out).mono ?_; rintro e w7 ⟨v7, rfl, hv7, hx7⟩; have V7 := Lib.hid hv7; have X7 := Lib.hid (X6.out.trans (hx7.mono X6.out.size)); clear hv7 hx7))
  go_ret2
  exact ⟨_, rfl, V7.out, HF0.out.ext X7.out, X7.out⟩
end
end Go.Proofs.YtoncebfhkoabaaaDoor
