/- CodeUnused's walk, one of three cases of the third argument. -/
import Derived.Test.YtcbfaobepmhidaaDoorC9
namespace Go.Proofs.YtcbfaobepmhidaaDoor
open Go.RowKit Go.Extern.Stop Go.Stop Go.Extern
set_option maxRecDepth 100000 in
set_option maxHeartbeats 16000000 in
theorem codeUnused_walk_b (x : InsD) (n0 q0 : Int) (hn1 : -9223372036854775808 ≤ n0) (hn2 : n0 < 9223372036854775808) (hq1 : -9223372036854775808 ≤ q0) (hq2 : q0 < 9223372036854775808) (hc : 1000000 < q0) (w : World) (hg : Gl w) :
    Calls Tryd.prog 6 #[insV x, .int .i64 n0, .int .i64 q0] w fun e w' => e = .returned (.bool true) ∧ Ext w w' := by
  have G := Lib.hid hg
  clear hg
  have hb0 := Int.emod_nonneg n0 (show (20 : Int) ≠ 0 by omega)
  have hb1 := Int.emod_lt_of_pos n0 (show (0 : Int) < 20 by omega)
  obtain ⟨n, hn⟩ : ∃ n : Nat, 1 + n0 % 20 = (n : Int) := ⟨(1 + n0 % 20).toNat, by omega⟩
  have hr1 : 1 ≤ n := by omega
  have hr2 : n ≤ 20 := by omega
  have HN := Lib.hid hn
  clear hn hb0 hb1
  have hc1 : 1 ≤ q0 := by omega
  go_enter Tryd.func6, Tryd.ntmps6
  go_wp2_with (first | (go_at_call 21; refine (within_any _ _ hn1 hn2 (by omega) (by omega) _).mono ?_; rintro e w' ⟨rfl, rfl⟩))
  rw [HN.out]
  have hx0 : Ext w (w.alloc (.cells #[.int .i64 x.op, .int .i64 x.a, .int .i64 x.b, .int .i64 x.c, .int .u64 x.v, .int .i64 x.m, .int .i64 x.wh] 42)) := ext1 _ _
  have hz0 : w.heap.size < (w.alloc (.cells #[.int .i64 x.op, .int .i64 x.a, .int .i64 x.b, .int .i64 x.c, .int .u64 x.v, .int .i64 x.m, .int .i64 x.wh] 42)).heap.size := by simp
  generalize hW0 : w.alloc (.cells #[.int .i64 x.op, .int .i64 x.a, .int .i64 x.b, .int .i64 x.c, .int .u64 x.v, .int .i64 x.m, .int .i64 x.wh] 42) = W0 at hx0 hz0 ⊢
  have b0 : W0.cell? ⟨w.heap.size, 0, none⟩ = some (.int .i64 x.op) := by rw [← hW0]; simp
  have b1 : W0.cell? ⟨w.heap.size, 1, none⟩ = some (.int .i64 x.a) := by rw [← hW0]; simp
  have b2 : W0.cell? ⟨w.heap.size, 2, none⟩ = some (.int .i64 x.b) := by rw [← hW0]; simp
  have b3 : W0.cell? ⟨w.heap.size, 3, none⟩ = some (.int .i64 x.c) := by rw [← hW0]; simp
  have b4 : W0.cell? ⟨w.heap.size, 4, none⟩ = some (.int .u64 x.v) := by rw [← hW0]; simp
  have b5 : W0.cell? ⟨w.heap.size, 5, none⟩ = some (.int .i64 x.m) := by rw [← hW0]; simp
  have b6 : W0.cell? ⟨w.heap.size, 6, none⟩ = some (.int .i64 x.wh) := by rw [← hW0]; simp
  have X0 := Lib.hid hx0
  clear hW0 hx0
  cases hm : mayF x n true
  · go_wp2_with (first
      | (go_at_call 19; refine (alone_any x n true hr1 (by omega) _).mono ?_; rintro e w1 ⟨rfl, hx1⟩; have X1 := Lib.hid (X0.out.trans (hx1.mono X0.out.size)); clear hx1)
      | (go_at_call 16; refine (awake_any _ (Gl.ext G.out X1.out)).mono ?_; rintro e w3 ⟨rfl, hx3⟩; have X3 := Lib.hid hx3; clear hx3))
    go_ret
    exact ⟨rfl, X1.out.trans (X3.out.mono X1.out.size)⟩
  · go_upto_region 7 with (first
      | (go_at_call 19; refine (alone_any x n true hr1 (by omega) _).mono ?_; rintro e w1 ⟨rfl, hx1⟩; have p0 : w1.cell? ⟨w.heap.size, 0, none⟩ = some (.int .i64 x.op) := (hx1.cell (p := ⟨w.heap.size, 0, none⟩) hz0).trans b0; have p1 : w1.cell? ⟨w.heap.size, 1, none⟩ = some (.int .i64 x.a) := (hx1.cell (p := ⟨w.heap.size, 1, none⟩) hz0).trans b1; have p2 : w1.cell? ⟨w.heap.size, 2, none⟩ = some (.int .i64 x.b) := (hx1.cell (p := ⟨w.heap.size, 2, none⟩) hz0).trans b2; have p3 : w1.cell? ⟨w.heap.size, 3, none⟩ = some (.int .i64 x.c) := (hx1.cell (p := ⟨w.heap.size, 3, none⟩) hz0).trans b3; have p4 : w1.cell? ⟨w.heap.size, 4, none⟩ = some (.int .u64 x.v) := (hx1.cell (p := ⟨w.heap.size, 4, none⟩) hz0).trans b4; have p5 : w1.cell? ⟨w.heap.size, 5, none⟩ = some (.int .i64 x.m) := (hx1.cell (p := ⟨w.heap.size, 5, none⟩) hz0).trans b5; have p6 : w1.cell? ⟨w.heap.size, 6, none⟩ = some (.int .i64 x.wh) := (hx1.cell (p := ⟨w.heap.size, 6, none⟩) hz0).trans b6; have z1 : w.heap.size < w1.heap.size := Nat.lt_of_lt_of_le hz0 hx1.size; have X1 := Lib.hid (X0.out.trans (hx1.mono X0.out.size)); clear hx1)
      | (go_at_call 17; refine (fields_any _ _).mono ?_; rintro e w' ⟨rfl, rfl⟩))
    all_goals have hz1 : w.heap.size < w1.heap.size := z1
    all_goals
      have hz2 : w.heap.size < w1.heap.size + 1 := by omega
      have hz3 : w.heap.size < w1.heap.size + 1 + 1 := by omega
      have hz4 : w.heap.size < w1.heap.size + 2 := by omega
      have hz5 : w.heap.size < w1.heap.size + 1 + 1 + 1 := by omega
      have hz6 : w.heap.size < w1.heap.size + 3 := by omega
      go_cut [2, 11, 12, 13] (fun s a b c wx => (∃ q : Int, s = .int .i64 q ∧ 1 ≤ q ∧ q ≤ 1000000) ∧ ∃ A B C : Nat, a = .pointer (some ⟨A, 0, none⟩) ∧ b = .pointer (some ⟨B, 0, none⟩) ∧ c = .pointer (some ⟨C, 0, none⟩) ∧ Tri wx w1.heap.size A B C x x x ∧ Ext w1 wx)
      case first =>
        go_region
        all_goals
          go_wp2_with fail
          go_meet
          refine ⟨?_, ?_⟩
          · first | exact ⟨1, rfl, by omega, by omega⟩ | exact ⟨q0, rfl, by omega, by omega⟩
          · first
            | exact ⟨_, _, _, rfl, rfl, rfl, three_tri (i := 0) (j := 1) (k := 2) w1 x (Nat.le_refl _) (by decide) (by decide) (by decide) (by decide) (by decide) (by decide), three_ext w1 x⟩
            | exact ⟨_, _, _, rfl, rfl, rfl, three_tri (i := 0) (j := 2) (k := 1) w1 x (Nat.le_refl _) (by decide) (by decide) (by decide) (by decide) (by decide) (by decide), three_ext w1 x⟩
            | exact ⟨_, _, _, rfl, rfl, rfl, three_tri (i := 1) (j := 0) (k := 2) w1 x (Nat.le_refl _) (by decide) (by decide) (by decide) (by decide) (by decide) (by decide), three_ext w1 x⟩
            | exact ⟨_, _, _, rfl, rfl, rfl, three_tri (i := 1) (j := 2) (k := 0) w1 x (Nat.le_refl _) (by decide) (by decide) (by decide) (by decide) (by decide) (by decide), three_ext w1 x⟩
            | exact ⟨_, _, _, rfl, rfl, rfl, three_tri (i := 2) (j := 0) (k := 1) w1 x (Nat.le_refl _) (by decide) (by decide) (by decide) (by decide) (by decide) (by decide), three_ext w1 x⟩
            | exact ⟨_, _, _, rfl, rfl, rfl, three_tri (i := 2) (j := 1) (k := 0) w1 x (Nat.le_refl _) (by decide) (by decide) (by decide) (by decide) (by decide) (by decide), three_ext w1 x⟩
      case rest =>
        obtain ⟨⟨q, rfl, hl1, hl2⟩, A, B, C, rfl, rfl, rfl, hT, hx2⟩ := hcut
        have T0 := Lib.hid hT
        have X2 := Lib.hid hx2
        have a1 := hT.y.2.1
        have b2' := hT.z.2.2.1
        have c3 := hT.u.2.2.2.1
        have fa := hT.fa 1
        have fb := hT.fb 2
        have fc := hT.fc 3
        have hAB := hT.ab
        have hAC := hT.ac
        have hBC := hT.bc
        have hBA := hAB.symm
        have hCA := hAC.symm
        have hCB := hBC.symm
        have CB := Lib.hid (show Cel w1 w.heap.size x from ⟨p0, p1, p2, p3, p4, p5, p6⟩)
        have lA := hT.a0
        have lB := hT.b0
        have lC := hT.c0
        clear hT hx2 p0 p1 p2 p3 p4 p5 p6 b0 b1 b2 b3 b4 b5 b6
        cases hA : fA x.op <;> cases hB : fB x.op <;> cases hC : fC x.op
        · go_upto_region 17 with fail
          have hT : Tri ((((((wc.setCell ⟨A, 1, none⟩ (.int .i64 (31 + q))).setCell ⟨B, 2, none⟩ (.int .i64 (31 + q))).setCell ⟨C, 3, none⟩ (.int .i64 (31 + q))).setCell ⟨A, 1, none⟩ (.int .i64 (q))).setCell ⟨B, 2, none⟩ (.int .i64 (q))).setCell ⟨C, 3, none⟩ (.int .i64 (q))) w1.heap.size A B C ⟨x.op, q, x.b, x.c, x.v, x.m, x.wh⟩ ⟨x.op, x.a, q, x.c, x.v, x.m, x.wh⟩ ⟨x.op, x.a, x.b, q, x.v, x.m, x.wh⟩ := ((((((T0.out.setA (31 + q)).setB (31 + q)).setC (31 + q)).setA (q)).setB (q)).setC (q))
          have hY : Ext w1 ((((((wc.setCell ⟨A, 1, none⟩ (.int .i64 (31 + q))).setCell ⟨B, 2, none⟩ (.int .i64 (31 + q))).setCell ⟨C, 3, none⟩ (.int .i64 (31 + q))).setCell ⟨A, 1, none⟩ (.int .i64 (q))).setCell ⟨B, 2, none⟩ (.int .i64 (q))).setCell ⟨C, 3, none⟩ (.int .i64 (q))) := ((((((X2.out.setCell (p := ⟨A, 1, none⟩) lA (.int .i64 (31 + q))).setCell (p := ⟨B, 2, none⟩) lB (.int .i64 (31 + q))).setCell (p := ⟨C, 3, none⟩) lC (.int .i64 (31 + q))).setCell (p := ⟨A, 1, none⟩) lA (.int .i64 (q))).setCell (p := ⟨B, 2, none⟩) lB (.int .i64 (q))).setCell (p := ⟨C, 3, none⟩) lC (.int .i64 (q)))
          generalize ((((((wc.setCell ⟨A, 1, none⟩ (.int .i64 (31 + q))).setCell ⟨B, 2, none⟩ (.int .i64 (31 + q))).setCell ⟨C, 3, none⟩ (.int .i64 (31 + q))).setCell ⟨A, 1, none⟩ (.int .i64 (q))).setCell ⟨B, 2, none⟩ (.int .i64 (q))).setCell ⟨C, 3, none⟩ (.int .i64 (q))) = V at hT hY ⊢
          clear a1 b2' c3 fa fb fc
          have kY : mayF ⟨x.op, q, x.b, x.c, x.v, x.m, x.wh⟩ n true = false := un_A0 _ _ _ _ _ _ _ _ hl1 hA
          have kZ : mayF ⟨x.op, x.a, q, x.c, x.v, x.m, x.wh⟩ n true = false := un_B0 _ _ _ _ _ _ _ _ hl1 hB
          have kU : mayF ⟨x.op, x.a, x.b, q, x.v, x.m, x.wh⟩ n true = false := un_C0 _ _ _ _ _ _ _ _ hl1 hC
          have s0 : V.cell? ⟨A, 0, none⟩ = some (.int .i64 (x.op)) := hT.y.1
          have s1 : V.cell? ⟨A, 1, none⟩ = some (.int .i64 (q)) := hT.y.2.1
          have s2 : V.cell? ⟨A, 2, none⟩ = some (.int .i64 (x.b)) := hT.y.2.2.1
          have s3 : V.cell? ⟨A, 3, none⟩ = some (.int .i64 (x.c)) := hT.y.2.2.2.1
          have s4 : V.cell? ⟨A, 4, none⟩ = some (.int .u64 (x.v)) := hT.y.2.2.2.2.1
          have s5 : V.cell? ⟨A, 5, none⟩ = some (.int .i64 (x.m)) := hT.y.2.2.2.2.2.1
          have s6 : V.cell? ⟨A, 6, none⟩ = some (.int .i64 (x.wh)) := hT.y.2.2.2.2.2.2
          have TV := Lib.hid hT
          have YV := Lib.hid hY
          clear hT hY
          go_upto_region 19 with (first
            | (go_at_call 19; refine (alone_f _ _ _ _ _ _ _ n hr1 (by omega) (by with_reducible exact kY) _).mono ?_; rintro e w2 ⟨rfl, hx⟩; have hT : Tri w2 w1.heap.size A B C ⟨x.op, q, x.b, x.c, x.v, x.m, x.wh⟩ ⟨x.op, x.a, q, x.c, x.v, x.m, x.wh⟩ ⟨x.op, x.a, x.b, q, x.v, x.m, x.wh⟩ := TV.out.ext hx; have t0 : w2.cell? ⟨B, 0, none⟩ = some (.int .i64 (x.op)) := hT.z.1; have t1 : w2.cell? ⟨B, 1, none⟩ = some (.int .i64 (x.a)) := hT.z.2.1; have t2 : w2.cell? ⟨B, 2, none⟩ = some (.int .i64 (q)) := hT.z.2.2.1; have t3 : w2.cell? ⟨B, 3, none⟩ = some (.int .i64 (x.c)) := hT.z.2.2.2.1; have t4 : w2.cell? ⟨B, 4, none⟩ = some (.int .u64 (x.v)) := hT.z.2.2.2.2.1; have t5 : w2.cell? ⟨B, 5, none⟩ = some (.int .i64 (x.m)) := hT.z.2.2.2.2.2.1; have t6 : w2.cell? ⟨B, 6, none⟩ = some (.int .i64 (x.wh)) := hT.z.2.2.2.2.2.2; have TW := Lib.hid hT; have YW := Lib.hid (show Ext w1 w2 from YV.out.trans (hx.mono YV.out.size)); clear hx hT)
            | (go_at_call 19; refine (alone_f _ _ _ _ _ _ _ n hr1 (by omega) (by with_reducible exact kZ) _).mono ?_; rintro e w3 ⟨rfl, hx⟩; have hT : Tri w3 w1.heap.size A B C ⟨x.op, q, x.b, x.c, x.v, x.m, x.wh⟩ ⟨x.op, x.a, q, x.c, x.v, x.m, x.wh⟩ ⟨x.op, x.a, x.b, q, x.v, x.m, x.wh⟩ := TW.out.ext hx; have r0 : w3.cell? ⟨C, 0, none⟩ = some (.int .i64 (x.op)) := hT.u.1; have r1 : w3.cell? ⟨C, 1, none⟩ = some (.int .i64 (x.a)) := hT.u.2.1; have r2 : w3.cell? ⟨C, 2, none⟩ = some (.int .i64 (x.b)) := hT.u.2.2.1; have r3 : w3.cell? ⟨C, 3, none⟩ = some (.int .i64 (q)) := hT.u.2.2.2.1; have r4 : w3.cell? ⟨C, 4, none⟩ = some (.int .u64 (x.v)) := hT.u.2.2.2.2.1; have r5 : w3.cell? ⟨C, 5, none⟩ = some (.int .i64 (x.m)) := hT.u.2.2.2.2.2.1; have r6 : w3.cell? ⟨C, 6, none⟩ = some (.int .i64 (x.wh)) := hT.u.2.2.2.2.2.2; have TX := Lib.hid hT; have YX := Lib.hid (show Ext w1 w3 from YW.out.trans (hx.mono YW.out.size)); clear hx hT)
            | (go_at_call 19; refine (alone_f _ _ _ _ _ _ _ n hr1 (by omega) (by with_reducible exact kU) _).mono ?_; rintro e w4 ⟨rfl, hx⟩; have hT : Tri w4 w1.heap.size A B C ⟨x.op, q, x.b, x.c, x.v, x.m, x.wh⟩ ⟨x.op, x.a, q, x.c, x.v, x.m, x.wh⟩ ⟨x.op, x.a, x.b, q, x.v, x.m, x.wh⟩ := TX.out.ext hx; skip; have TY := Lib.hid hT; have YY := Lib.hid (show Ext w1 w4 from YX.out.trans (hx.mono YX.out.size)); clear hx hT))
          have hC4 : Cel w4 w.heap.size x := CB.out.ext YY.out hz1
          have d0 : w4.cell? ⟨w.heap.size, 0, none⟩ = some (.int .i64 (x.op)) := hC4.1
          have d1 : w4.cell? ⟨w.heap.size, 1, none⟩ = some (.int .i64 (x.a)) := hC4.2.1
          have d2 : w4.cell? ⟨w.heap.size, 2, none⟩ = some (.int .i64 (x.b)) := hC4.2.2.1
          have d3 : w4.cell? ⟨w.heap.size, 3, none⟩ = some (.int .i64 (x.c)) := hC4.2.2.2.1
          have d4 : w4.cell? ⟨w.heap.size, 4, none⟩ = some (.int .u64 (x.v)) := hC4.2.2.2.2.1
          have d5 : w4.cell? ⟨w.heap.size, 5, none⟩ = some (.int .i64 (x.m)) := hC4.2.2.2.2.2.1
          have d6 : w4.cell? ⟨w.heap.size, 6, none⟩ = some (.int .i64 (x.wh)) := hC4.2.2.2.2.2.2
          have X4 := Lib.hid (show Ext w w4 from X1.out.trans (YY.out.mono X1.out.size))
          have z4 : w.heap.size < w4.heap.size := Nat.lt_of_lt_of_le hz1 YY.out.size
          clear hC4 kY kZ kU
          cases hV : fV x.op
          · have kV : mayF ⟨x.op, x.a, x.b, x.c, q, x.m, x.wh⟩ n true = false := un_V _ _ _ _ _ _ _ _ hl1 hV
            go_wp2_with (first
              | (go_at_call 19; refine (alone_f _ _ _ _ _ _ _ n hr1 (by omega) (by with_reducible exact kV) _).mono ?_; rintro e w5 ⟨rfl, hx⟩; have X5 := Lib.hid (show Ext w w5 from (X4.out.alloc X4.out.size _).trans (hx.mono (X4.out.alloc X4.out.size _).size)); clear hx)
              | (go_at_call 16; refine (awake_any _ (Gl.ext G.out X5.out)).mono ?_; rintro e w6 ⟨rfl, hx⟩; have X6 := Lib.hid (show Ext w w6 from X5.out.trans (hx.mono X5.out.size)); clear hx))
            go_ret
            exact ⟨rfl, X6.out⟩
          · go_wp2_with (first
              | (go_at_call 16; refine (awake_any _ (Gl.ext G.out (X4.out.alloc X4.out.size _))).mono ?_; rintro e w6 ⟨rfl, hx⟩; have X6 := Lib.hid (show Ext w w6 from (X4.out.alloc X4.out.size _).trans (hx.mono (X4.out.alloc X4.out.size _).size)); clear hx))
            go_ret
            exact ⟨rfl, X6.out⟩
        · go_upto_region 17 with fail
          have hT : Tri (((((wc.setCell ⟨A, 1, none⟩ (.int .i64 (31 + q))).setCell ⟨B, 2, none⟩ (.int .i64 (31 + q))).setCell ⟨C, 3, none⟩ (.int .i64 (31 + q))).setCell ⟨A, 1, none⟩ (.int .i64 (q))).setCell ⟨B, 2, none⟩ (.int .i64 (q))) w1.heap.size A B C ⟨x.op, q, x.b, x.c, x.v, x.m, x.wh⟩ ⟨x.op, x.a, q, x.c, x.v, x.m, x.wh⟩ ⟨x.op, x.a, x.b, 31 + q, x.v, x.m, x.wh⟩ := (((((T0.out.setA (31 + q)).setB (31 + q)).setC (31 + q)).setA (q)).setB (q))
          have hY : Ext w1 (((((wc.setCell ⟨A, 1, none⟩ (.int .i64 (31 + q))).setCell ⟨B, 2, none⟩ (.int .i64 (31 + q))).setCell ⟨C, 3, none⟩ (.int .i64 (31 + q))).setCell ⟨A, 1, none⟩ (.int .i64 (q))).setCell ⟨B, 2, none⟩ (.int .i64 (q))) := (((((X2.out.setCell (p := ⟨A, 1, none⟩) lA (.int .i64 (31 + q))).setCell (p := ⟨B, 2, none⟩) lB (.int .i64 (31 + q))).setCell (p := ⟨C, 3, none⟩) lC (.int .i64 (31 + q))).setCell (p := ⟨A, 1, none⟩) lA (.int .i64 (q))).setCell (p := ⟨B, 2, none⟩) lB (.int .i64 (q)))
          generalize (((((wc.setCell ⟨A, 1, none⟩ (.int .i64 (31 + q))).setCell ⟨B, 2, none⟩ (.int .i64 (31 + q))).setCell ⟨C, 3, none⟩ (.int .i64 (31 + q))).setCell ⟨A, 1, none⟩ (.int .i64 (q))).setCell ⟨B, 2, none⟩ (.int .i64 (q))) = V at hT hY ⊢
          clear a1 b2' c3 fa fb fc
          have kY : mayF ⟨x.op, q, x.b, x.c, x.v, x.m, x.wh⟩ n true = false := un_A0 _ _ _ _ _ _ _ _ hl1 hA
          have kZ : mayF ⟨x.op, x.a, q, x.c, x.v, x.m, x.wh⟩ n true = false := un_B0 _ _ _ _ _ _ _ _ hl1 hB
          have kU : mayF ⟨x.op, x.a, x.b, 31 + q, x.v, x.m, x.wh⟩ n true = false := un_C1 _ _ _ _ _ _ _ _ hl1 hC
          have s0 : V.cell? ⟨A, 0, none⟩ = some (.int .i64 (x.op)) := hT.y.1
          have s1 : V.cell? ⟨A, 1, none⟩ = some (.int .i64 (q)) := hT.y.2.1
          have s2 : V.cell? ⟨A, 2, none⟩ = some (.int .i64 (x.b)) := hT.y.2.2.1
          have s3 : V.cell? ⟨A, 3, none⟩ = some (.int .i64 (x.c)) := hT.y.2.2.2.1
          have s4 : V.cell? ⟨A, 4, none⟩ = some (.int .u64 (x.v)) := hT.y.2.2.2.2.1
          have s5 : V.cell? ⟨A, 5, none⟩ = some (.int .i64 (x.m)) := hT.y.2.2.2.2.2.1
          have s6 : V.cell? ⟨A, 6, none⟩ = some (.int .i64 (x.wh)) := hT.y.2.2.2.2.2.2
          have TV := Lib.hid hT
          have YV := Lib.hid hY
          clear hT hY
          go_upto_region 19 with (first
            | (go_at_call 19; refine (alone_f _ _ _ _ _ _ _ n hr1 (by omega) (by with_reducible exact kY) _).mono ?_; rintro e w2 ⟨rfl, hx⟩; have hT : Tri w2 w1.heap.size A B C ⟨x.op, q, x.b, x.c, x.v, x.m, x.wh⟩ ⟨x.op, x.a, q, x.c, x.v, x.m, x.wh⟩ ⟨x.op, x.a, x.b, 31 + q, x.v, x.m, x.wh⟩ := TV.out.ext hx; have t0 : w2.cell? ⟨B, 0, none⟩ = some (.int .i64 (x.op)) := hT.z.1; have t1 : w2.cell? ⟨B, 1, none⟩ = some (.int .i64 (x.a)) := hT.z.2.1; have t2 : w2.cell? ⟨B, 2, none⟩ = some (.int .i64 (q)) := hT.z.2.2.1; have t3 : w2.cell? ⟨B, 3, none⟩ = some (.int .i64 (x.c)) := hT.z.2.2.2.1; have t4 : w2.cell? ⟨B, 4, none⟩ = some (.int .u64 (x.v)) := hT.z.2.2.2.2.1; have t5 : w2.cell? ⟨B, 5, none⟩ = some (.int .i64 (x.m)) := hT.z.2.2.2.2.2.1; have t6 : w2.cell? ⟨B, 6, none⟩ = some (.int .i64 (x.wh)) := hT.z.2.2.2.2.2.2; have TW := Lib.hid hT; have YW := Lib.hid (show Ext w1 w2 from YV.out.trans (hx.mono YV.out.size)); clear hx hT)
            | (go_at_call 19; refine (alone_f _ _ _ _ _ _ _ n hr1 (by omega) (by with_reducible exact kZ) _).mono ?_; rintro e w3 ⟨rfl, hx⟩; have hT : Tri w3 w1.heap.size A B C ⟨x.op, q, x.b, x.c, x.v, x.m, x.wh⟩ ⟨x.op, x.a, q, x.c, x.v, x.m, x.wh⟩ ⟨x.op, x.a, x.b, 31 + q, x.v, x.m, x.wh⟩ := TW.out.ext hx; have r0 : w3.cell? ⟨C, 0, none⟩ = some (.int .i64 (x.op)) := hT.u.1; have r1 : w3.cell? ⟨C, 1, none⟩ = some (.int .i64 (x.a)) := hT.u.2.1; have r2 : w3.cell? ⟨C, 2, none⟩ = some (.int .i64 (x.b)) := hT.u.2.2.1; have r3 : w3.cell? ⟨C, 3, none⟩ = some (.int .i64 (31 + q)) := hT.u.2.2.2.1; have r4 : w3.cell? ⟨C, 4, none⟩ = some (.int .u64 (x.v)) := hT.u.2.2.2.2.1; have r5 : w3.cell? ⟨C, 5, none⟩ = some (.int .i64 (x.m)) := hT.u.2.2.2.2.2.1; have r6 : w3.cell? ⟨C, 6, none⟩ = some (.int .i64 (x.wh)) := hT.u.2.2.2.2.2.2; have TX := Lib.hid hT; have YX := Lib.hid (show Ext w1 w3 from YW.out.trans (hx.mono YW.out.size)); clear hx hT)
            | (go_at_call 19; refine (alone_f _ _ _ _ _ _ _ n hr1 (by omega) (by with_reducible exact kU) _).mono ?_; rintro e w4 ⟨rfl, hx⟩; have hT : Tri w4 w1.heap.size A B C ⟨x.op, q, x.b, x.c, x.v, x.m, x.wh⟩ ⟨x.op, x.a, q, x.c, x.v, x.m, x.wh⟩ ⟨x.op, x.a, x.b, 31 + q, x.v, x.m, x.wh⟩ := TX.out.ext hx; skip; have TY := Lib.hid hT; have YY := Lib.hid (show Ext w1 w4 from YX.out.trans (hx.mono YX.out.size)); clear hx hT))
          have hC4 : Cel w4 w.heap.size x := CB.out.ext YY.out hz1
          have d0 : w4.cell? ⟨w.heap.size, 0, none⟩ = some (.int .i64 (x.op)) := hC4.1
          have d1 : w4.cell? ⟨w.heap.size, 1, none⟩ = some (.int .i64 (x.a)) := hC4.2.1
          have d2 : w4.cell? ⟨w.heap.size, 2, none⟩ = some (.int .i64 (x.b)) := hC4.2.2.1
          have d3 : w4.cell? ⟨w.heap.size, 3, none⟩ = some (.int .i64 (x.c)) := hC4.2.2.2.1
          have d4 : w4.cell? ⟨w.heap.size, 4, none⟩ = some (.int .u64 (x.v)) := hC4.2.2.2.2.1
          have d5 : w4.cell? ⟨w.heap.size, 5, none⟩ = some (.int .i64 (x.m)) := hC4.2.2.2.2.2.1
          have d6 : w4.cell? ⟨w.heap.size, 6, none⟩ = some (.int .i64 (x.wh)) := hC4.2.2.2.2.2.2
          have X4 := Lib.hid (show Ext w w4 from X1.out.trans (YY.out.mono X1.out.size))
          have z4 : w.heap.size < w4.heap.size := Nat.lt_of_lt_of_le hz1 YY.out.size
          clear hC4 kY kZ kU
          cases hV : fV x.op
          · have kV : mayF ⟨x.op, x.a, x.b, x.c, q, x.m, x.wh⟩ n true = false := un_V _ _ _ _ _ _ _ _ hl1 hV
            go_wp2_with (first
              | (go_at_call 19; refine (alone_f _ _ _ _ _ _ _ n hr1 (by omega) (by with_reducible exact kV) _).mono ?_; rintro e w5 ⟨rfl, hx⟩; have X5 := Lib.hid (show Ext w w5 from (X4.out.alloc X4.out.size _).trans (hx.mono (X4.out.alloc X4.out.size _).size)); clear hx)
              | (go_at_call 16; refine (awake_any _ (Gl.ext G.out X5.out)).mono ?_; rintro e w6 ⟨rfl, hx⟩; have X6 := Lib.hid (show Ext w w6 from X5.out.trans (hx.mono X5.out.size)); clear hx))
            go_ret
            exact ⟨rfl, X6.out⟩
          · go_wp2_with (first
              | (go_at_call 16; refine (awake_any _ (Gl.ext G.out (X4.out.alloc X4.out.size _))).mono ?_; rintro e w6 ⟨rfl, hx⟩; have X6 := Lib.hid (show Ext w w6 from (X4.out.alloc X4.out.size _).trans (hx.mono (X4.out.alloc X4.out.size _).size)); clear hx))
            go_ret
            exact ⟨rfl, X6.out⟩
        · go_upto_region 17 with fail
          have hT : Tri (((((wc.setCell ⟨A, 1, none⟩ (.int .i64 (31 + q))).setCell ⟨B, 2, none⟩ (.int .i64 (31 + q))).setCell ⟨C, 3, none⟩ (.int .i64 (31 + q))).setCell ⟨A, 1, none⟩ (.int .i64 (q))).setCell ⟨C, 3, none⟩ (.int .i64 (q))) w1.heap.size A B C ⟨x.op, q, x.b, x.c, x.v, x.m, x.wh⟩ ⟨x.op, x.a, 31 + q, x.c, x.v, x.m, x.wh⟩ ⟨x.op, x.a, x.b, q, x.v, x.m, x.wh⟩ := (((((T0.out.setA (31 + q)).setB (31 + q)).setC (31 + q)).setA (q)).setC (q))
          have hY : Ext w1 (((((wc.setCell ⟨A, 1, none⟩ (.int .i64 (31 + q))).setCell ⟨B, 2, none⟩ (.int .i64 (31 + q))).setCell ⟨C, 3, none⟩ (.int .i64 (31 + q))).setCell ⟨A, 1, none⟩ (.int .i64 (q))).setCell ⟨C, 3, none⟩ (.int .i64 (q))) := (((((X2.out.setCell (p := ⟨A, 1, none⟩) lA (.int .i64 (31 + q))).setCell (p := ⟨B, 2, none⟩) lB (.int .i64 (31 + q))).setCell (p := ⟨C, 3, none⟩) lC (.int .i64 (31 + q))).setCell (p := ⟨A, 1, none⟩) lA (.int .i64 (q))).setCell (p := ⟨C, 3, none⟩) lC (.int .i64 (q)))
          generalize (((((wc.setCell ⟨A, 1, none⟩ (.int .i64 (31 + q))).setCell ⟨B, 2, none⟩ (.int .i64 (31 + q))).setCell ⟨C, 3, none⟩ (.int .i64 (31 + q))).setCell ⟨A, 1, none⟩ (.int .i64 (q))).setCell ⟨C, 3, none⟩ (.int .i64 (q))) = V at hT hY ⊢
          clear a1 b2' c3 fa fb fc
          have kY : mayF ⟨x.op, q, x.b, x.c, x.v, x.m, x.wh⟩ n true = false := un_A0 _ _ _ _ _ _ _ _ hl1 hA
          have kZ : mayF ⟨x.op, x.a, 31 + q, x.c, x.v, x.m, x.wh⟩ n true = false := un_B1 _ _ _ _ _ _ _ _ hl1 hB
          have kU : mayF ⟨x.op, x.a, x.b, q, x.v, x.m, x.wh⟩ n true = false := un_C0 _ _ _ _ _ _ _ _ hl1 hC
          have s0 : V.cell? ⟨A, 0, none⟩ = some (.int .i64 (x.op)) := hT.y.1
          have s1 : V.cell? ⟨A, 1, none⟩ = some (.int .i64 (q)) := hT.y.2.1
          have s2 : V.cell? ⟨A, 2, none⟩ = some (.int .i64 (x.b)) := hT.y.2.2.1
          have s3 : V.cell? ⟨A, 3, none⟩ = some (.int .i64 (x.c)) := hT.y.2.2.2.1
          have s4 : V.cell? ⟨A, 4, none⟩ = some (.int .u64 (x.v)) := hT.y.2.2.2.2.1
          have s5 : V.cell? ⟨A, 5, none⟩ = some (.int .i64 (x.m)) := hT.y.2.2.2.2.2.1
          have s6 : V.cell? ⟨A, 6, none⟩ = some (.int .i64 (x.wh)) := hT.y.2.2.2.2.2.2
          have TV := Lib.hid hT
          have YV := Lib.hid hY
          clear hT hY
          go_upto_region 19 with (first
            | (go_at_call 19; refine (alone_f _ _ _ _ _ _ _ n hr1 (by omega) (by with_reducible exact kY) _).mono ?_; rintro e w2 ⟨rfl, hx⟩; have hT : Tri w2 w1.heap.size A B C ⟨x.op, q, x.b, x.c, x.v, x.m, x.wh⟩ ⟨x.op, x.a, 31 + q, x.c, x.v, x.m, x.wh⟩ ⟨x.op, x.a, x.b, q, x.v, x.m, x.wh⟩ := TV.out.ext hx; have t0 : w2.cell? ⟨B, 0, none⟩ = some (.int .i64 (x.op)) := hT.z.1; have t1 : w2.cell? ⟨B, 1, none⟩ = some (.int .i64 (x.a)) := hT.z.2.1; have t2 : w2.cell? ⟨B, 2, none⟩ = some (.int .i64 (31 + q)) := hT.z.2.2.1; have t3 : w2.cell? ⟨B, 3, none⟩ = some (.int .i64 (x.c)) := hT.z.2.2.2.1; have t4 : w2.cell? ⟨B, 4, none⟩ = some (.int .u64 (x.v)) := hT.z.2.2.2.2.1; have t5 : w2.cell? ⟨B, 5, none⟩ = some (.int .i64 (x.m)) := hT.z.2.2.2.2.2.1; have t6 : w2.cell? ⟨B, 6, none⟩ = some (.int .i64 (x.wh)) := hT.z.2.2.2.2.2.2; have TW := Lib.hid hT; have YW := Lib.hid (show Ext w1 w2 from YV.out.trans (hx.mono YV.out.size)); clear hx hT)
            | (go_at_call 19; refine (alone_f _ _ _ _ _ _ _ n hr1 (by omega) (by with_reducible exact kZ) _).mono ?_; rintro e w3 ⟨rfl, hx⟩; have hT : Tri w3 w1.heap.size A B C ⟨x.op, q, x.b, x.c, x.v, x.m, x.wh⟩ ⟨x.op, x.a, 31 + q, x.c, x.v, x.m, x.wh⟩ ⟨x.op, x.a, x.b, q, x.v, x.m, x.wh⟩ := TW.out.ext hx; have r0 : w3.cell? ⟨C, 0, none⟩ = some (.int .i64 (x.op)) := hT.u.1; have r1 : w3.cell? ⟨C, 1, none⟩ = some (.int .i64 (x.a)) := hT.u.2.1; have r2 : w3.cell? ⟨C, 2, none⟩ = some (.int .i64 (x.b)) := hT.u.2.2.1; have r3 : w3.cell? ⟨C, 3, none⟩ = some (.int .i64 (q)) := hT.u.2.2.2.1; have r4 : w3.cell? ⟨C, 4, none⟩ = some (.int .u64 (x.v)) := hT.u.2.2.2.2.1; have r5 : w3.cell? ⟨C, 5, none⟩ = some (.int .i64 (x.m)) := hT.u.2.2.2.2.2.1; have r6 : w3.cell? ⟨C, 6, none⟩ = some (.int .i64 (x.wh)) := hT.u.2.2.2.2.2.2; have TX := Lib.hid hT; have YX := Lib.hid (show Ext w1 w3 from YW.out.trans (hx.mono YW.out.size)); clear hx hT)
            | (go_at_call 19; refine (alone_f _ _ _ _ _ _ _ n hr1 (by omega) (by with_reducible exact kU) _).mono ?_; rintro e w4 ⟨rfl, hx⟩; have hT : Tri w4 w1.heap.size A B C ⟨x.op, q, x.b, x.c, x.v, x.m, x.wh⟩ ⟨x.op, x.a, 31 + q, x.c, x.v, x.m, x.wh⟩ ⟨x.op, x.a, x.b, q, x.v, x.m, x.wh⟩ := TX.out.ext hx; skip; have TY := Lib.hid hT; have YY := Lib.hid (show Ext w1 w4 from YX.out.trans (hx.mono YX.out.size)); clear hx hT))
          have hC4 : Cel w4 w.heap.size x := CB.out.ext YY.out hz1
          have d0 : w4.cell? ⟨w.heap.size, 0, none⟩ = some (.int .i64 (x.op)) := hC4.1
          have d1 : w4.cell? ⟨w.heap.size, 1, none⟩ = some (.int .i64 (x.a)) := hC4.2.1
          have d2 : w4.cell? ⟨w.heap.size, 2, none⟩ = some (.int .i64 (x.b)) := hC4.2.2.1
          have d3 : w4.cell? ⟨w.heap.size, 3, none⟩ = some (.int .i64 (x.c)) := hC4.2.2.2.1
          have d4 : w4.cell? ⟨w.heap.size, 4, none⟩ = some (.int .u64 (x.v)) := hC4.2.2.2.2.1
          have d5 : w4.cell? ⟨w.heap.size, 5, none⟩ = some (.int .i64 (x.m)) := hC4.2.2.2.2.2.1
          have d6 : w4.cell? ⟨w.heap.size, 6, none⟩ = some (.int .i64 (x.wh)) := hC4.2.2.2.2.2.2
          have X4 := Lib.hid (show Ext w w4 from X1.out.trans (YY.out.mono X1.out.size))
          have z4 : w.heap.size < w4.heap.size := Nat.lt_of_lt_of_le hz1 YY.out.size
          clear hC4 kY kZ kU
          cases hV : fV x.op
          · have kV : mayF ⟨x.op, x.a, x.b, x.c, q, x.m, x.wh⟩ n true = false := un_V _ _ _ _ _ _ _ _ hl1 hV
            go_wp2_with (first
              | (go_at_call 19; refine (alone_f _ _ _ _ _ _ _ n hr1 (by omega) (by with_reducible exact kV) _).mono ?_; rintro e w5 ⟨rfl, hx⟩; have X5 := Lib.hid (show Ext w w5 from (X4.out.alloc X4.out.size _).trans (hx.mono (X4.out.alloc X4.out.size _).size)); clear hx)
              | (go_at_call 16; refine (awake_any _ (Gl.ext G.out X5.out)).mono ?_; rintro e w6 ⟨rfl, hx⟩; have X6 := Lib.hid (show Ext w w6 from X5.out.trans (hx.mono X5.out.size)); clear hx))
            go_ret
            exact ⟨rfl, X6.out⟩
          · go_wp2_with (first
              | (go_at_call 16; refine (awake_any _ (Gl.ext G.out (X4.out.alloc X4.out.size _))).mono ?_; rintro e w6 ⟨rfl, hx⟩; have X6 := Lib.hid (show Ext w w6 from (X4.out.alloc X4.out.size _).trans (hx.mono (X4.out.alloc X4.out.size _).size)); clear hx))
            go_ret
            exact ⟨rfl, X6.out⟩
        · go_upto_region 17 with fail
          have hT : Tri ((((wc.setCell ⟨A, 1, none⟩ (.int .i64 (31 + q))).setCell ⟨B, 2, none⟩ (.int .i64 (31 + q))).setCell ⟨C, 3, none⟩ (.int .i64 (31 + q))).setCell ⟨A, 1, none⟩ (.int .i64 (q))) w1.heap.size A B C ⟨x.op, q, x.b, x.c, x.v, x.m, x.wh⟩ ⟨x.op, x.a, 31 + q, x.c, x.v, x.m, x.wh⟩ ⟨x.op, x.a, x.b, 31 + q, x.v, x.m, x.wh⟩ := ((((T0.out.setA (31 + q)).setB (31 + q)).setC (31 + q)).setA (q))
          have hY : Ext w1 ((((wc.setCell ⟨A, 1, none⟩ (.int .i64 (31 + q))).setCell ⟨B, 2, none⟩ (.int .i64 (31 + q))).setCell ⟨C, 3, none⟩ (.int .i64 (31 + q))).setCell ⟨A, 1, none⟩ (.int .i64 (q))) := ((((X2.out.setCell (p := ⟨A, 1, none⟩) lA (.int .i64 (31 + q))).setCell (p := ⟨B, 2, none⟩) lB (.int .i64 (31 + q))).setCell (p := ⟨C, 3, none⟩) lC (.int .i64 (31 + q))).setCell (p := ⟨A, 1, none⟩) lA (.int .i64 (q)))
          generalize ((((wc.setCell ⟨A, 1, none⟩ (.int .i64 (31 + q))).setCell ⟨B, 2, none⟩ (.int .i64 (31 + q))).setCell ⟨C, 3, none⟩ (.int .i64 (31 + q))).setCell ⟨A, 1, none⟩ (.int .i64 (q))) = V at hT hY ⊢
          clear a1 b2' c3 fa fb fc
          have kY : mayF ⟨x.op, q, x.b, x.c, x.v, x.m, x.wh⟩ n true = false := un_A0 _ _ _ _ _ _ _ _ hl1 hA
          have kZ : mayF ⟨x.op, x.a, 31 + q, x.c, x.v, x.m, x.wh⟩ n true = false := un_B1 _ _ _ _ _ _ _ _ hl1 hB
          have kU : mayF ⟨x.op, x.a, x.b, 31 + q, x.v, x.m, x.wh⟩ n true = false := un_C1 _ _ _ _ _ _ _ _ hl1 hC
          have s0 : V.cell? ⟨A, 0, none⟩ = some (.int .i64 (x.op)) := hT.y.1
          have s1 : V.cell? ⟨A, 1, none⟩ = some (.int .i64 (q)) := hT.y.2.1
          have s2 : V.cell? ⟨A, 2, none⟩ = some (.int .i64 (x.b)) := hT.y.2.2.1
          have s3 : V.cell? ⟨A, 3, none⟩ = some (.int .i64 (x.c)) := hT.y.2.2.2.1
          have s4 : V.cell? ⟨A, 4, none⟩ = some (.int .u64 (x.v)) := hT.y.2.2.2.2.1
          have s5 : V.cell? ⟨A, 5, none⟩ = some (.int .i64 (x.m)) := hT.y.2.2.2.2.2.1
          have s6 : V.cell? ⟨A, 6, none⟩ = some (.int .i64 (x.wh)) := hT.y.2.2.2.2.2.2
          have TV := Lib.hid hT
          have YV := Lib.hid hY
          clear hT hY
          go_upto_region 19 with (first
            | (go_at_call 19; refine (alone_f _ _ _ _ _ _ _ n hr1 (by omega) (by with_reducible exact kY) _).mono ?_; rintro e w2 ⟨rfl, hx⟩; have hT : Tri w2 w1.heap.size A B C ⟨x.op, q, x.b, x.c, x.v, x.m, x.wh⟩ ⟨x.op, x.a, 31 + q, x.c, x.v, x.m, x.wh⟩ ⟨x.op, x.a, x.b, 31 + q, x.v, x.m, x.wh⟩ := TV.out.ext hx; have t0 : w2.cell? ⟨B, 0, none⟩ = some (.int .i64 (x.op)) := hT.z.1; have t1 : w2.cell? ⟨B, 1, none⟩ = some (.int .i64 (x.a)) := hT.z.2.1; have t2 : w2.cell? ⟨B, 2, none⟩ = some (.int .i64 (31 + q)) := hT.z.2.2.1; have t3 : w2.cell? ⟨B, 3, none⟩ = some (.int .i64 (x.c)) := hT.z.2.2.2.1; have t4 : w2.cell? ⟨B, 4, none⟩ = some (.int .u64 (x.v)) := hT.z.2.2.2.2.1; have t5 : w2.cell? ⟨B, 5, none⟩ = some (.int .i64 (x.m)) := hT.z.2.2.2.2.2.1; have t6 : w2.cell? ⟨B, 6, none⟩ = some (.int .i64 (x.wh)) := hT.z.2.2.2.2.2.2; have TW := Lib.hid hT; have YW := Lib.hid (show Ext w1 w2 from YV.out.trans (hx.mono YV.out.size)); clear hx hT)
            | (go_at_call 19; refine (alone_f _ _ _ _ _ _ _ n hr1 (by omega) (by with_reducible exact kZ) _).mono ?_; rintro e w3 ⟨rfl, hx⟩; have hT : Tri w3 w1.heap.size A B C ⟨x.op, q, x.b, x.c, x.v, x.m, x.wh⟩ ⟨x.op, x.a, 31 + q, x.c, x.v, x.m, x.wh⟩ ⟨x.op, x.a, x.b, 31 + q, x.v, x.m, x.wh⟩ := TW.out.ext hx; have r0 : w3.cell? ⟨C, 0, none⟩ = some (.int .i64 (x.op)) := hT.u.1; have r1 : w3.cell? ⟨C, 1, none⟩ = some (.int .i64 (x.a)) := hT.u.2.1; have r2 : w3.cell? ⟨C, 2, none⟩ = some (.int .i64 (x.b)) := hT.u.2.2.1; have r3 : w3.cell? ⟨C, 3, none⟩ = some (.int .i64 (31 + q)) := hT.u.2.2.2.1; have r4 : w3.cell? ⟨C, 4, none⟩ = some (.int .u64 (x.v)) := hT.u.2.2.2.2.1; have r5 : w3.cell? ⟨C, 5, none⟩ = some (.int .i64 (x.m)) := hT.u.2.2.2.2.2.1; have r6 : w3.cell? ⟨C, 6, none⟩ = some (.int .i64 (x.wh)) := hT.u.2.2.2.2.2.2; have TX := Lib.hid hT; have YX := Lib.hid (show Ext w1 w3 from YW.out.trans (hx.mono YW.out.size)); clear hx hT)
            | (go_at_call 19; refine (alone_f _ _ _ _ _ _ _ n hr1 (by omega) (by with_reducible exact kU) _).mono ?_; rintro e w4 ⟨rfl, hx⟩; have hT : Tri w4 w1.heap.size A B C ⟨x.op, q, x.b, x.c, x.v, x.m, x.wh⟩ ⟨x.op, x.a, 31 + q, x.c, x.v, x.m, x.wh⟩ ⟨x.op, x.a, x.b, 31 + q, x.v, x.m, x.wh⟩ := TX.out.ext hx; skip; have TY := Lib.hid hT; have YY := Lib.hid (show Ext w1 w4 from YX.out.trans (hx.mono YX.out.size)); clear hx hT))
          have hC4 : Cel w4 w.heap.size x := CB.out.ext YY.out hz1
          have d0 : w4.cell? ⟨w.heap.size, 0, none⟩ = some (.int .i64 (x.op)) := hC4.1
          have d1 : w4.cell? ⟨w.heap.size, 1, none⟩ = some (.int .i64 (x.a)) := hC4.2.1
          have d2 : w4.cell? ⟨w.heap.size, 2, none⟩ = some (.int .i64 (x.b)) := hC4.2.2.1
          have d3 : w4.cell? ⟨w.heap.size, 3, none⟩ = some (.int .i64 (x.c)) := hC4.2.2.2.1
          have d4 : w4.cell? ⟨w.heap.size, 4, none⟩ = some (.int .u64 (x.v)) := hC4.2.2.2.2.1
          have d5 : w4.cell? ⟨w.heap.size, 5, none⟩ = some (.int .i64 (x.m)) := hC4.2.2.2.2.2.1
          have d6 : w4.cell? ⟨w.heap.size, 6, none⟩ = some (.int .i64 (x.wh)) := hC4.2.2.2.2.2.2
          have X4 := Lib.hid (show Ext w w4 from X1.out.trans (YY.out.mono X1.out.size))
          have z4 : w.heap.size < w4.heap.size := Nat.lt_of_lt_of_le hz1 YY.out.size
          clear hC4 kY kZ kU
          cases hV : fV x.op
          · have kV : mayF ⟨x.op, x.a, x.b, x.c, q, x.m, x.wh⟩ n true = false := un_V _ _ _ _ _ _ _ _ hl1 hV
            go_wp2_with (first
              | (go_at_call 19; refine (alone_f _ _ _ _ _ _ _ n hr1 (by omega) (by with_reducible exact kV) _).mono ?_; rintro e w5 ⟨rfl, hx⟩; have X5 := Lib.hid (show Ext w w5 from (X4.out.alloc X4.out.size _).trans (hx.mono (X4.out.alloc X4.out.size _).size)); clear hx)
              | (go_at_call 16; refine (awake_any _ (Gl.ext G.out X5.out)).mono ?_; rintro e w6 ⟨rfl, hx⟩; have X6 := Lib.hid (show Ext w w6 from X5.out.trans (hx.mono X5.out.size)); clear hx))
            go_ret
            exact ⟨rfl, X6.out⟩
          · go_wp2_with (first
              | (go_at_call 16; refine (awake_any _ (Gl.ext G.out (X4.out.alloc X4.out.size _))).mono ?_; rintro e w6 ⟨rfl, hx⟩; have X6 := Lib.hid (show Ext w w6 from (X4.out.alloc X4.out.size _).trans (hx.mono (X4.out.alloc X4.out.size _).size)); clear hx))
            go_ret
            exact ⟨rfl, X6.out⟩
        · go_upto_region 17 with fail
          have hT : Tri (((((wc.setCell ⟨A, 1, none⟩ (.int .i64 (31 + q))).setCell ⟨B, 2, none⟩ (.int .i64 (31 + q))).setCell ⟨C, 3, none⟩ (.int .i64 (31 + q))).setCell ⟨B, 2, none⟩ (.int .i64 (q))).setCell ⟨C, 3, none⟩ (.int .i64 (q))) w1.heap.size A B C ⟨x.op, 31 + q, x.b, x.c, x.v, x.m, x.wh⟩ ⟨x.op, x.a, q, x.c, x.v, x.m, x.wh⟩ ⟨x.op, x.a, x.b, q, x.v, x.m, x.wh⟩ := (((((T0.out.setA (31 + q)).setB (31 + q)).setC (31 + q)).setB (q)).setC (q))
          have hY : Ext w1 (((((wc.setCell ⟨A, 1, none⟩ (.int .i64 (31 + q))).setCell ⟨B, 2, none⟩ (.int .i64 (31 + q))).setCell ⟨C, 3, none⟩ (.int .i64 (31 + q))).setCell ⟨B, 2, none⟩ (.int .i64 (q))).setCell ⟨C, 3, none⟩ (.int .i64 (q))) := (((((X2.out.setCell (p := ⟨A, 1, none⟩) lA (.int .i64 (31 + q))).setCell (p := ⟨B, 2, none⟩) lB (.int .i64 (31 + q))).setCell (p := ⟨C, 3, none⟩) lC (.int .i64 (31 + q))).setCell (p := ⟨B, 2, none⟩) lB (.int .i64 (q))).setCell (p := ⟨C, 3, none⟩) lC (.int .i64 (q)))
          generalize (((((wc.setCell ⟨A, 1, none⟩ (.int .i64 (31 + q))).setCell ⟨B, 2, none⟩ (.int .i64 (31 + q))).setCell ⟨C, 3, none⟩ (.int .i64 (31 + q))).setCell ⟨B, 2, none⟩ (.int .i64 (q))).setCell ⟨C, 3, none⟩ (.int .i64 (q))) = V at hT hY ⊢
          clear a1 b2' c3 fa fb fc
          have kY : mayF ⟨x.op, 31 + q, x.b, x.c, x.v, x.m, x.wh⟩ n true = false := un_A1 _ _ _ _ _ _ _ _ hl1 hA
          have kZ : mayF ⟨x.op, x.a, q, x.c, x.v, x.m, x.wh⟩ n true = false := un_B0 _ _ _ _ _ _ _ _ hl1 hB
          have kU : mayF ⟨x.op, x.a, x.b, q, x.v, x.m, x.wh⟩ n true = false := un_C0 _ _ _ _ _ _ _ _ hl1 hC
          have s0 : V.cell? ⟨A, 0, none⟩ = some (.int .i64 (x.op)) := hT.y.1
          have s1 : V.cell? ⟨A, 1, none⟩ = some (.int .i64 (31 + q)) := hT.y.2.1
          have s2 : V.cell? ⟨A, 2, none⟩ = some (.int .i64 (x.b)) := hT.y.2.2.1
          have s3 : V.cell? ⟨A, 3, none⟩ = some (.int .i64 (x.c)) := hT.y.2.2.2.1
          have s4 : V.cell? ⟨A, 4, none⟩ = some (.int .u64 (x.v)) := hT.y.2.2.2.2.1
          have s5 : V.cell? ⟨A, 5, none⟩ = some (.int .i64 (x.m)) := hT.y.2.2.2.2.2.1
          have s6 : V.cell? ⟨A, 6, none⟩ = some (.int .i64 (x.wh)) := hT.y.2.2.2.2.2.2
          have TV := Lib.hid hT
          have YV := Lib.hid hY
          clear hT hY
          go_upto_region 19 with (first
            | (go_at_call 19; refine (alone_f _ _ _ _ _ _ _ n hr1 (by omega) (by with_reducible exact kY) _).mono ?_; rintro e w2 ⟨rfl, hx⟩; have hT : Tri w2 w1.heap.size A B C ⟨x.op, 31 + q, x.b, x.c, x.v, x.m, x.wh⟩ ⟨x.op, x.a, q, x.c, x.v, x.m, x.wh⟩ ⟨x.op, x.a, x.b, q, x.v, x.m, x.wh⟩ := TV.out.ext hx; have t0 : w2.cell? ⟨B, 0, none⟩ = some (.int .i64 (x.op)) := hT.z.1; have t1 : w2.cell? ⟨B, 1, none⟩ = some (.int .i64 (x.a)) := hT.z.2.1; have t2 : w2.cell? ⟨B, 2, none⟩ = some (.int .i64 (q)) := hT.z.2.2.1; have t3 : w2.cell? ⟨B, 3, none⟩ = some (.int .i64 (x.c)) := hT.z.2.2.2.1; have t4 : w2.cell? ⟨B, 4, none⟩ = some (.int .u64 (x.v)) := hT.z.2.2.2.2.1; have t5 : w2.cell? ⟨B, 5, none⟩ = some (.int .i64 (x.m)) := hT.z.2.2.2.2.2.1; have t6 : w2.cell? ⟨B, 6, none⟩ = some (.int .i64 (x.wh)) := hT.z.2.2.2.2.2.2; have TW := Lib.hid hT; have YW := Lib.hid (show Ext w1 w2 from YV.out.trans (hx.mono YV.out.size)); clear hx hT)
            | (go_at_call 19; refine (alone_f _ _ _ _ _ _ _ n hr1 (by omega) (by with_reducible exact kZ) _).mono ?_; rintro e w3 ⟨rfl, hx⟩; have hT : Tri w3 w1.heap.size A B C ⟨x.op, 31 + q, x.b, x.c, x.v, x.m, x.wh⟩ ⟨x.op, x.a, q, x.c, x.v, x.m, x.wh⟩ ⟨x.op, x.a, x.b, q, x.v, x.m, x.wh⟩ := TW.out.ext hx; have r0 : w3.cell? ⟨C, 0, none⟩ = some (.int .i64 (x.op)) := hT.u.1; have r1 : w3.cell? ⟨C, 1, none⟩ = some (.int .i64 (x.a)) := hT.u.2.1; have r2 : w3.cell? ⟨C, 2, none⟩ = some (.int .i64 (x.b)) := hT.u.2.2.1; have r3 : w3.cell? ⟨C, 3, none⟩ = some (.int .i64 (q)) := hT.u.2.2.2.1; have r4 : w3.cell? ⟨C, 4, none⟩ = some (.int .u64 (x.v)) := hT.u.2.2.2.2.1; have r5 : w3.cell? ⟨C, 5, none⟩ = some (.int .i64 (x.m)) := hT.u.2.2.2.2.2.1; have r6 : w3.cell? ⟨C, 6, none⟩ = some (.int .i64 (x.wh)) := hT.u.2.2.2.2.2.2; have TX := Lib.hid hT; have YX := Lib.hid (show Ext w1 w3 from YW.out.trans (hx.mono YW.out.size)); clear hx hT)
            | (go_at_call 19; refine (alone_f _ _ _ _ _ _ _ n hr1 (by omega) (by with_reducible exact kU) _).mono ?_; rintro e w4 ⟨rfl, hx⟩; have hT : Tri w4 w1.heap.size A B C ⟨x.op, 31 + q, x.b, x.c, x.v, x.m, x.wh⟩ ⟨x.op, x.a, q, x.c, x.v, x.m, x.wh⟩ ⟨x.op, x.a, x.b, q, x.v, x.m, x.wh⟩ := TX.out.ext hx; skip; have TY := Lib.hid hT; have YY := Lib.hid (show Ext w1 w4 from YX.out.trans (hx.mono YX.out.size)); clear hx hT))
          have hC4 : Cel w4 w.heap.size x := CB.out.ext YY.out hz1
          have d0 : w4.cell? ⟨w.heap.size, 0, none⟩ = some (.int .i64 (x.op)) := hC4.1
          have d1 : w4.cell? ⟨w.heap.size, 1, none⟩ = some (.int .i64 (x.a)) := hC4.2.1
          have d2 : w4.cell? ⟨w.heap.size, 2, none⟩ = some (.int .i64 (x.b)) := hC4.2.2.1
          have d3 : w4.cell? ⟨w.heap.size, 3, none⟩ = some (.int .i64 (x.c)) := hC4.2.2.2.1
          have d4 : w4.cell? ⟨w.heap.size, 4, none⟩ = some (.int .u64 (x.v)) := hC4.2.2.2.2.1
          have d5 : w4.cell? ⟨w.heap.size, 5, none⟩ = some (.int .i64 (x.m)) := hC4.2.2.2.2.2.1
          have d6 : w4.cell? ⟨w.heap.size, 6, none⟩ = some (.int .i64 (x.wh)) := hC4.2.2.2.2.2.2
          have X4 := Lib.hid (show Ext w w4 from X1.out.trans (YY.out.mono X1.out.size))
          have z4 : w.heap.size < w4.heap.size := Nat.lt_of_lt_of_le hz1 YY.out.size
          clear hC4 kY kZ kU
          cases hV : fV x.op
          · have kV : mayF ⟨x.op, x.a, x.b, x.c, q, x.m, x.wh⟩ n true = false := un_V _ _ _ _ _ _ _ _ hl1 hV
            go_wp2_with (first
              | (go_at_call 19; refine (alone_f _ _ _ _ _ _ _ n hr1 (by omega) (by with_reducible exact kV) _).mono ?_; rintro e w5 ⟨rfl, hx⟩; have X5 := Lib.hid (show Ext w w5 from (X4.out.alloc X4.out.size _).trans (hx.mono (X4.out.alloc X4.out.size _).size)); clear hx)
              | (go_at_call 16; refine (awake_any _ (Gl.ext G.out X5.out)).mono ?_; rintro e w6 ⟨rfl, hx⟩; have X6 := Lib.hid (show Ext w w6 from X5.out.trans (hx.mono X5.out.size)); clear hx))
            go_ret
            exact ⟨rfl, X6.out⟩
          · go_wp2_with (first
              | (go_at_call 16; refine (awake_any _ (Gl.ext G.out (X4.out.alloc X4.out.size _))).mono ?_; rintro e w6 ⟨rfl, hx⟩; have X6 := Lib.hid (show Ext w w6 from (X4.out.alloc X4.out.size _).trans (hx.mono (X4.out.alloc X4.out.size _).size)); clear hx))
            go_ret
            exact ⟨rfl, X6.out⟩
        · go_upto_region 17 with fail
          have hT : Tri ((((wc.setCell ⟨A, 1, none⟩ (.int .i64 (31 + q))).setCell ⟨B, 2, none⟩ (.int .i64 (31 + q))).setCell ⟨C, 3, none⟩ (.int .i64 (31 + q))).setCell ⟨B, 2, none⟩ (.int .i64 (q))) w1.heap.size A B C ⟨x.op, 31 + q, x.b, x.c, x.v, x.m, x.wh⟩ ⟨x.op, x.a, q, x.c, x.v, x.m, x.wh⟩ ⟨x.op, x.a, x.b, 31 + q, x.v, x.m, x.wh⟩ := ((((T0.out.setA (31 + q)).setB (31 + q)).setC (31 + q)).setB (q))
          have hY : Ext w1 ((((wc.setCell ⟨A, 1, none⟩ (.int .i64 (31 + q))).setCell ⟨B, 2, none⟩ (.int .i64 (31 + q))).setCell ⟨C, 3, none⟩ (.int .i64 (31 + q))).setCell ⟨B, 2, none⟩ (.int .i64 (q))) := ((((X2.out.setCell (p := ⟨A, 1, none⟩) lA (.int .i64 (31 + q))).setCell (p := ⟨B, 2, none⟩) lB (.int .i64 (31 + q))).setCell (p := ⟨C, 3, none⟩) lC (.int .i64 (31 + q))).setCell (p := ⟨B, 2, none⟩) lB (.int .i64 (q)))
          generalize ((((wc.setCell ⟨A, 1, none⟩ (.int .i64 (31 + q))).setCell ⟨B, 2, none⟩ (.int .i64 (31 + q))).setCell ⟨C, 3, none⟩ (.int .i64 (31 + q))).setCell ⟨B, 2, none⟩ (.int .i64 (q))) = V at hT hY ⊢
          clear a1 b2' c3 fa fb fc
          have kY : mayF ⟨x.op, 31 + q, x.b, x.c, x.v, x.m, x.wh⟩ n true = false := un_A1 _ _ _ _ _ _ _ _ hl1 hA
          have kZ : mayF ⟨x.op, x.a, q, x.c, x.v, x.m, x.wh⟩ n true = false := un_B0 _ _ _ _ _ _ _ _ hl1 hB
          have kU : mayF ⟨x.op, x.a, x.b, 31 + q, x.v, x.m, x.wh⟩ n true = false := un_C1 _ _ _ _ _ _ _ _ hl1 hC
          have s0 : V.cell? ⟨A, 0, none⟩ = some (.int .i64 (x.op)) := hT.y.1
          have s1 : V.cell? ⟨A, 1, none⟩ = some (.int .i64 (31 + q)) := hT.y.2.1
          have s2 : V.cell? ⟨A, 2, none⟩ = some (.int .i64 (x.b)) := hT.y.2.2.1
          have s3 : V.cell? ⟨A, 3, none⟩ = some (.int .i64 (x.c)) := hT.y.2.2.2.1
          have s4 : V.cell? ⟨A, 4, none⟩ = some (.int .u64 (x.v)) := hT.y.2.2.2.2.1
          have s5 : V.cell? ⟨A, 5, none⟩ = some (.int .i64 (x.m)) := hT.y.2.2.2.2.2.1
          have s6 : V.cell? ⟨A, 6, none⟩ = some (.int .i64 (x.wh)) := hT.y.2.2.2.2.2.2
          have TV := Lib.hid hT
          have YV := Lib.hid hY
          clear hT hY
          go_upto_region 19 with (first
            | (go_at_call 19; refine (alone_f _ _ _ _ _ _ _ n hr1 (by omega) (by with_reducible exact kY) _).mono ?_; rintro e w2 ⟨rfl, hx⟩; have hT : Tri w2 w1.heap.size A B C ⟨x.op, 31 + q, x.b, x.c, x.v, x.m, x.wh⟩ ⟨x.op, x.a, q, x.c, x.v, x.m, x.wh⟩ ⟨x.op, x.a, x.b, 31 + q, x.v, x.m, x.wh⟩ := TV.out.ext hx; have t0 : w2.cell? ⟨B, 0, none⟩ = some (.int .i64 (x.op)) := hT.z.1; have t1 : w2.cell? ⟨B, 1, none⟩ = some (.int .i64 (x.a)) := hT.z.2.1; have t2 : w2.cell? ⟨B, 2, none⟩ = some (.int .i64 (q)) := hT.z.2.2.1; have t3 : w2.cell? ⟨B, 3, none⟩ = some (.int .i64 (x.c)) := hT.z.2.2.2.1; have t4 : w2.cell? ⟨B, 4, none⟩ = some (.int .u64 (x.v)) := hT.z.2.2.2.2.1; have t5 : w2.cell? ⟨B, 5, none⟩ = some (.int .i64 (x.m)) := hT.z.2.2.2.2.2.1; have t6 : w2.cell? ⟨B, 6, none⟩ = some (.int .i64 (x.wh)) := hT.z.2.2.2.2.2.2; have TW := Lib.hid hT; have YW := Lib.hid (show Ext w1 w2 from YV.out.trans (hx.mono YV.out.size)); clear hx hT)
            | (go_at_call 19; refine (alone_f _ _ _ _ _ _ _ n hr1 (by omega) (by with_reducible exact kZ) _).mono ?_; rintro e w3 ⟨rfl, hx⟩; have hT : Tri w3 w1.heap.size A B C ⟨x.op, 31 + q, x.b, x.c, x.v, x.m, x.wh⟩ ⟨x.op, x.a, q, x.c, x.v, x.m, x.wh⟩ ⟨x.op, x.a, x.b, 31 + q, x.v, x.m, x.wh⟩ := TW.out.ext hx; have r0 : w3.cell? ⟨C, 0, none⟩ = some (.int .i64 (x.op)) := hT.u.1; have r1 : w3.cell? ⟨C, 1, none⟩ = some (.int .i64 (x.a)) := hT.u.2.1; have r2 : w3.cell? ⟨C, 2, none⟩ = some (.int .i64 (x.b)) := hT.u.2.2.1; have r3 : w3.cell? ⟨C, 3, none⟩ = some (.int .i64 (31 + q)) := hT.u.2.2.2.1; have r4 : w3.cell? ⟨C, 4, none⟩ = some (.int .u64 (x.v)) := hT.u.2.2.2.2.1; have r5 : w3.cell? ⟨C, 5, none⟩ = some (.int .i64 (x.m)) := hT.u.2.2.2.2.2.1; have r6 : w3.cell? ⟨C, 6, none⟩ = some (.int .i64 (x.wh)) := hT.u.2.2.2.2.2.2; have TX := Lib.hid hT; have YX := Lib.hid (show Ext w1 w3 from YW.out.trans (hx.mono YW.out.size)); clear hx hT)
            | (go_at_call 19; refine (alone_f _ _ _ _ _ _ _ n hr1 (by omega) (by with_reducible exact kU) _).mono ?_; rintro e w4 ⟨rfl, hx⟩; have hT : Tri w4 w1.heap.size A B C ⟨x.op, 31 + q, x.b, x.c, x.v, x.m, x.wh⟩ ⟨x.op, x.a, q, x.c, x.v, x.m, x.wh⟩ ⟨x.op, x.a, x.b, 31 + q, x.v, x.m, x.wh⟩ := TX.out.ext hx; skip; have TY := Lib.hid hT; have YY := Lib.hid (show Ext w1 w4 from YX.out.trans (hx.mono YX.out.size)); clear hx hT))
          have hC4 : Cel w4 w.heap.size x := CB.out.ext YY.out hz1
          have d0 : w4.cell? ⟨w.heap.size, 0, none⟩ = some (.int .i64 (x.op)) := hC4.1
          have d1 : w4.cell? ⟨w.heap.size, 1, none⟩ = some (.int .i64 (x.a)) := hC4.2.1
          have d2 : w4.cell? ⟨w.heap.size, 2, none⟩ = some (.int .i64 (x.b)) := hC4.2.2.1
          have d3 : w4.cell? ⟨w.heap.size, 3, none⟩ = some (.int .i64 (x.c)) := hC4.2.2.2.1
          have d4 : w4.cell? ⟨w.heap.size, 4, none⟩ = some (.int .u64 (x.v)) := hC4.2.2.2.2.1
          have d5 : w4.cell? ⟨w.heap.size, 5, none⟩ = some (.int .i64 (x.m)) := hC4.2.2.2.2.2.1
          have d6 : w4.cell? ⟨w.heap.size, 6, none⟩ = some (.int .i64 (x.wh)) := hC4.2.2.2.2.2.2
          have X4 := Lib.hid (show Ext w w4 from X1.out.trans (YY.out.mono X1.out.size))
          have z4 : w.heap.size < w4.heap.size := Nat.lt_of_lt_of_le hz1 YY.out.size
          clear hC4 kY kZ kU
          cases hV : fV x.op
          · have kV : mayF ⟨x.op, x.a, x.b, x.c, q, x.m, x.wh⟩ n true = false := un_V _ _ _ _ _ _ _ _ hl1 hV
            go_wp2_with (first
              | (go_at_call 19; refine (alone_f _ _ _ _ _ _ _ n hr1 (by omega) (by with_reducible exact kV) _).mono ?_; rintro e w5 ⟨rfl, hx⟩; have X5 := Lib.hid (show Ext w w5 from (X4.out.alloc X4.out.size _).trans (hx.mono (X4.out.alloc X4.out.size _).size)); clear hx)
              | (go_at_call 16; refine (awake_any _ (Gl.ext G.out X5.out)).mono ?_; rintro e w6 ⟨rfl, hx⟩; have X6 := Lib.hid (show Ext w w6 from X5.out.trans (hx.mono X5.out.size)); clear hx))
            go_ret
            exact ⟨rfl, X6.out⟩
          · go_wp2_with (first
              | (go_at_call 16; refine (awake_any _ (Gl.ext G.out (X4.out.alloc X4.out.size _))).mono ?_; rintro e w6 ⟨rfl, hx⟩; have X6 := Lib.hid (show Ext w w6 from (X4.out.alloc X4.out.size _).trans (hx.mono (X4.out.alloc X4.out.size _).size)); clear hx))
            go_ret
            exact ⟨rfl, X6.out⟩
        · go_upto_region 17 with fail
          have hT : Tri ((((wc.setCell ⟨A, 1, none⟩ (.int .i64 (31 + q))).setCell ⟨B, 2, none⟩ (.int .i64 (31 + q))).setCell ⟨C, 3, none⟩ (.int .i64 (31 + q))).setCell ⟨C, 3, none⟩ (.int .i64 (q))) w1.heap.size A B C ⟨x.op, 31 + q, x.b, x.c, x.v, x.m, x.wh⟩ ⟨x.op, x.a, 31 + q, x.c, x.v, x.m, x.wh⟩ ⟨x.op, x.a, x.b, q, x.v, x.m, x.wh⟩ := ((((T0.out.setA (31 + q)).setB (31 + q)).setC (31 + q)).setC (q))
          have hY : Ext w1 ((((wc.setCell ⟨A, 1, none⟩ (.int .i64 (31 + q))).setCell ⟨B, 2, none⟩ (.int .i64 (31 + q))).setCell ⟨C, 3, none⟩ (.int .i64 (31 + q))).setCell ⟨C, 3, none⟩ (.int .i64 (q))) := ((((X2.out.setCell (p := ⟨A, 1, none⟩) lA (.int .i64 (31 + q))).setCell (p := ⟨B, 2, none⟩) lB (.int .i64 (31 + q))).setCell (p := ⟨C, 3, none⟩) lC (.int .i64 (31 + q))).setCell (p := ⟨C, 3, none⟩) lC (.int .i64 (q)))
          generalize ((((wc.setCell ⟨A, 1, none⟩ (.int .i64 (31 + q))).setCell ⟨B, 2, none⟩ (.int .i64 (31 + q))).setCell ⟨C, 3, none⟩ (.int .i64 (31 + q))).setCell ⟨C, 3, none⟩ (.int .i64 (q))) = V at hT hY ⊢
          clear a1 b2' c3 fa fb fc
          have kY : mayF ⟨x.op, 31 + q, x.b, x.c, x.v, x.m, x.wh⟩ n true = false := un_A1 _ _ _ _ _ _ _ _ hl1 hA
          have kZ : mayF ⟨x.op, x.a, 31 + q, x.c, x.v, x.m, x.wh⟩ n true = false := un_B1 _ _ _ _ _ _ _ _ hl1 hB
          have kU : mayF ⟨x.op, x.a, x.b, q, x.v, x.m, x.wh⟩ n true = false := un_C0 _ _ _ _ _ _ _ _ hl1 hC
          have s0 : V.cell? ⟨A, 0, none⟩ = some (.int .i64 (x.op)) := hT.y.1
          have s1 : V.cell? ⟨A, 1, none⟩ = some (.int .i64 (31 + q)) := hT.y.2.1
          have s2 : V.cell? ⟨A, 2, none⟩ = some (.int .i64 (x.b)) := hT.y.2.2.1
          have s3 : V.cell? ⟨A, 3, none⟩ = some (.int .i64 (x.c)) := hT.y.2.2.2.1
          have s4 : V.cell? ⟨A, 4, none⟩ = some (.int .u64 (x.v)) := hT.y.2.2.2.2.1
          have s5 : V.cell? ⟨A, 5, none⟩ = some (.int .i64 (x.m)) := hT.y.2.2.2.2.2.1
          have s6 : V.cell? ⟨A, 6, none⟩ = some (.int .i64 (x.wh)) := hT.y.2.2.2.2.2.2
          have TV := Lib.hid hT
          have YV := Lib.hid hY
          clear hT hY
          go_upto_region 19 with (first
            | (go_at_call 19; refine (alone_f _ _ _ _ _ _ _ n hr1 (by omega) (by with_reducible exact kY) _).mono ?_; rintro e w2 ⟨rfl, hx⟩; have hT : Tri w2 w1.heap.size A B C ⟨x.op, 31 + q, x.b, x.c, x.v, x.m, x.wh⟩ ⟨x.op, x.a, 31 + q, x.c, x.v, x.m, x.wh⟩ ⟨x.op, x.a, x.b, q, x.v, x.m, x.wh⟩ := TV.out.ext hx; have t0 : w2.cell? ⟨B, 0, none⟩ = some (.int .i64 (x.op)) := hT.z.1; have t1 : w2.cell? ⟨B, 1, none⟩ = some (.int .i64 (x.a)) := hT.z.2.1; have t2 : w2.cell? ⟨B, 2, none⟩ = some (.int .i64 (31 + q)) := hT.z.2.2.1; have t3 : w2.cell? ⟨B, 3, none⟩ = some (.int .i64 (x.c)) := hT.z.2.2.2.1; have t4 : w2.cell? ⟨B, 4, none⟩ = some (.int .u64 (x.v)) := hT.z.2.2.2.2.1; have t5 : w2.cell? ⟨B, 5, none⟩ = some (.int .i64 (x.m)) := hT.z.2.2.2.2.2.1; have t6 : w2.cell? ⟨B, 6, none⟩ = some (.int .i64 (x.wh)) := hT.z.2.2.2.2.2.2; have TW := Lib.hid hT; have YW := Lib.hid (show Ext w1 w2 from YV.out.trans (hx.mono YV.out.size)); clear hx hT)
            | (go_at_call 19; refine (alone_f _ _ _ _ _ _ _ n hr1 (by omega) (by with_reducible exact kZ) _).mono ?_; rintro e w3 ⟨rfl, hx⟩; have hT : Tri w3 w1.heap.size A B C ⟨x.op, 31 + q, x.b, x.c, x.v, x.m, x.wh⟩ ⟨x.op, x.a, 31 + q, x.c, x.v, x.m, x.wh⟩ ⟨x.op, x.a, x.b, q, x.v, x.m, x.wh⟩ := TW.out.ext hx; have r0 : w3.cell? ⟨C, 0, none⟩ = some (.int .i64 (x.op)) := hT.u.1; have r1 : w3.cell? ⟨C, 1, none⟩ = some (.int .i64 (x.a)) := hT.u.2.1; have r2 : w3.cell? ⟨C, 2, none⟩ = some (.int .i64 (x.b)) := hT.u.2.2.1; have r3 : w3.cell? ⟨C, 3, none⟩ = some (.int .i64 (q)) := hT.u.2.2.2.1; have r4 : w3.cell? ⟨C, 4, none⟩ = some (.int .u64 (x.v)) := hT.u.2.2.2.2.1; have r5 : w3.cell? ⟨C, 5, none⟩ = some (.int .i64 (x.m)) := hT.u.2.2.2.2.2.1; have r6 : w3.cell? ⟨C, 6, none⟩ = some (.int .i64 (x.wh)) := hT.u.2.2.2.2.2.2; have TX := Lib.hid hT; have YX := Lib.hid (show Ext w1 w3 from YW.out.trans (hx.mono YW.out.size)); clear hx hT)
            | (go_at_call 19; refine (alone_f _ _ _ _ _ _ _ n hr1 (by omega) (by with_reducible exact kU) _).mono ?_; rintro e w4 ⟨rfl, hx⟩; have hT : Tri w4 w1.heap.size A B C ⟨x.op, 31 + q, x.b, x.c, x.v, x.m, x.wh⟩ ⟨x.op, x.a, 31 + q, x.c, x.v, x.m, x.wh⟩ ⟨x.op, x.a, x.b, q, x.v, x.m, x.wh⟩ := TX.out.ext hx; skip; have TY := Lib.hid hT; have YY := Lib.hid (show Ext w1 w4 from YX.out.trans (hx.mono YX.out.size)); clear hx hT))
          have hC4 : Cel w4 w.heap.size x := CB.out.ext YY.out hz1
          have d0 : w4.cell? ⟨w.heap.size, 0, none⟩ = some (.int .i64 (x.op)) := hC4.1
          have d1 : w4.cell? ⟨w.heap.size, 1, none⟩ = some (.int .i64 (x.a)) := hC4.2.1
          have d2 : w4.cell? ⟨w.heap.size, 2, none⟩ = some (.int .i64 (x.b)) := hC4.2.2.1
          have d3 : w4.cell? ⟨w.heap.size, 3, none⟩ = some (.int .i64 (x.c)) := hC4.2.2.2.1
          have d4 : w4.cell? ⟨w.heap.size, 4, none⟩ = some (.int .u64 (x.v)) := hC4.2.2.2.2.1
          have d5 : w4.cell? ⟨w.heap.size, 5, none⟩ = some (.int .i64 (x.m)) := hC4.2.2.2.2.2.1
          have d6 : w4.cell? ⟨w.heap.size, 6, none⟩ = some (.int .i64 (x.wh)) := hC4.2.2.2.2.2.2
          have X4 := Lib.hid (show Ext w w4 from X1.out.trans (YY.out.mono X1.out.size))
          have z4 : w.heap.size < w4.heap.size := Nat.lt_of_lt_of_le hz1 YY.out.size
          clear hC4 kY kZ kU
          cases hV : fV x.op
          · have kV : mayF ⟨x.op, x.a, x.b, x.c, q, x.m, x.wh⟩ n true = false := un_V _ _ _ _ _ _ _ _ hl1 hV
            go_wp2_with (first
              | (go_at_call 19; refine (alone_f _ _ _ _ _ _ _ n hr1 (by omega) (by with_reducible exact kV) _).mono ?_; rintro e w5 ⟨rfl, hx⟩; have X5 := Lib.hid (show Ext w w5 from (X4.out.alloc X4.out.size _).trans (hx.mono (X4.out.alloc X4.out.size _).size)); clear hx)
              | (go_at_call 16; refine (awake_any _ (Gl.ext G.out X5.out)).mono ?_; rintro e w6 ⟨rfl, hx⟩; have X6 := Lib.hid (show Ext w w6 from X5.out.trans (hx.mono X5.out.size)); clear hx))
            go_ret
            exact ⟨rfl, X6.out⟩
          · go_wp2_with (first
              | (go_at_call 16; refine (awake_any _ (Gl.ext G.out (X4.out.alloc X4.out.size _))).mono ?_; rintro e w6 ⟨rfl, hx⟩; have X6 := Lib.hid (show Ext w w6 from (X4.out.alloc X4.out.size _).trans (hx.mono (X4.out.alloc X4.out.size _).size)); clear hx))
            go_ret
            exact ⟨rfl, X6.out⟩
        · go_upto_region 17 with fail
          have hT : Tri (((wc.setCell ⟨A, 1, none⟩ (.int .i64 (31 + q))).setCell ⟨B, 2, none⟩ (.int .i64 (31 + q))).setCell ⟨C, 3, none⟩ (.int .i64 (31 + q))) w1.heap.size A B C ⟨x.op, 31 + q, x.b, x.c, x.v, x.m, x.wh⟩ ⟨x.op, x.a, 31 + q, x.c, x.v, x.m, x.wh⟩ ⟨x.op, x.a, x.b, 31 + q, x.v, x.m, x.wh⟩ := (((T0.out.setA (31 + q)).setB (31 + q)).setC (31 + q))
          have hY : Ext w1 (((wc.setCell ⟨A, 1, none⟩ (.int .i64 (31 + q))).setCell ⟨B, 2, none⟩ (.int .i64 (31 + q))).setCell ⟨C, 3, none⟩ (.int .i64 (31 + q))) := (((X2.out.setCell (p := ⟨A, 1, none⟩) lA (.int .i64 (31 + q))).setCell (p := ⟨B, 2, none⟩) lB (.int .i64 (31 + q))).setCell (p := ⟨C, 3, none⟩) lC (.int .i64 (31 + q)))
          generalize (((wc.setCell ⟨A, 1, none⟩ (.int .i64 (31 + q))).setCell ⟨B, 2, none⟩ (.int .i64 (31 + q))).setCell ⟨C, 3, none⟩ (.int .i64 (31 + q))) = V at hT hY ⊢
          clear a1 b2' c3 fa fb fc
          have kY : mayF ⟨x.op, 31 + q, x.b, x.c, x.v, x.m, x.wh⟩ n true = false := un_A1 _ _ _ _ _ _ _ _ hl1 hA
          have kZ : mayF ⟨x.op, x.a, 31 + q, x.c, x.v, x.m, x.wh⟩ n true = false := un_B1 _ _ _ _ _ _ _ _ hl1 hB
          have kU : mayF ⟨x.op, x.a, x.b, 31 + q, x.v, x.m, x.wh⟩ n true = false := un_C1 _ _ _ _ _ _ _ _ hl1 hC
          have s0 : V.cell? ⟨A, 0, none⟩ = some (.int .i64 (x.op)) := hT.y.1
          have s1 : V.cell? ⟨A, 1, none⟩ = some (.int .i64 (31 + q)) := hT.y.2.1
          have s2 : V.cell? ⟨A, 2, none⟩ = some (.int .i64 (x.b)) := hT.y.2.2.1
          have s3 : V.cell? ⟨A, 3, none⟩ = some (.int .i64 (x.c)) := hT.y.2.2.2.1
          have s4 : V.cell? ⟨A, 4, none⟩ = some (.int .u64 (x.v)) := hT.y.2.2.2.2.1
          have s5 : V.cell? ⟨A, 5, none⟩ = some (.int .i64 (x.m)) := hT.y.2.2.2.2.2.1
          have s6 : V.cell? ⟨A, 6, none⟩ = some (.int .i64 (x.wh)) := hT.y.2.2.2.2.2.2
          have TV := Lib.hid hT
          have YV := Lib.hid hY
          clear hT hY
          go_upto_region 19 with (first
            | (go_at_call 19; refine (alone_f _ _ _ _ _ _ _ n hr1 (by omega) (by with_reducible exact kY) _).mono ?_; rintro e w2 ⟨rfl, hx⟩; have hT : Tri w2 w1.heap.size A B C ⟨x.op, 31 + q, x.b, x.c, x.v, x.m, x.wh⟩ ⟨x.op, x.a, 31 + q, x.c, x.v, x.m, x.wh⟩ ⟨x.op, x.a, x.b, 31 + q, x.v, x.m, x.wh⟩ := TV.out.ext hx; have t0 : w2.cell? ⟨B, 0, none⟩ = some (.int .i64 (x.op)) := hT.z.1; have t1 : w2.cell? ⟨B, 1, none⟩ = some (.int .i64 (x.a)) := hT.z.2.1; have t2 : w2.cell? ⟨B, 2, none⟩ = some (.int .i64 (31 + q)) := hT.z.2.2.1; have t3 : w2.cell? ⟨B, 3, none⟩ = some (.int .i64 (x.c)) := hT.z.2.2.2.1; have t4 : w2.cell? ⟨B, 4, none⟩ = some (.int .u64 (x.v)) := hT.z.2.2.2.2.1; have t5 : w2.cell? ⟨B, 5, none⟩ = some (.int .i64 (x.m)) := hT.z.2.2.2.2.2.1; have t6 : w2.cell? ⟨B, 6, none⟩ = some (.int .i64 (x.wh)) := hT.z.2.2.2.2.2.2; have TW := Lib.hid hT; have YW := Lib.hid (show Ext w1 w2 from YV.out.trans (hx.mono YV.out.size)); clear hx hT)
            | (go_at_call 19; refine (alone_f _ _ _ _ _ _ _ n hr1 (by omega) (by with_reducible exact kZ) _).mono ?_; rintro e w3 ⟨rfl, hx⟩; have hT : Tri w3 w1.heap.size A B C ⟨x.op, 31 + q, x.b, x.c, x.v, x.m, x.wh⟩ ⟨x.op, x.a, 31 + q, x.c, x.v, x.m, x.wh⟩ ⟨x.op, x.a, x.b, 31 + q, x.v, x.m, x.wh⟩ := TW.out.ext hx; have r0 : w3.cell? ⟨C, 0, none⟩ = some (.int .i64 (x.op)) := hT.u.1; have r1 : w3.cell? ⟨C, 1, none⟩ = some (.int .i64 (x.a)) := hT.u.2.1; have r2 : w3.cell? ⟨C, 2, none⟩ = some (.int .i64 (x.b)) := hT.u.2.2.1; have r3 : w3.cell? ⟨C, 3, none⟩ = some (.int .i64 (31 + q)) := hT.u.2.2.2.1; have r4 : w3.cell? ⟨C, 4, none⟩ = some (.int .u64 (x.v)) := hT.u.2.2.2.2.1; have r5 : w3.cell? ⟨C, 5, none⟩ = some (.int .i64 (x.m)) := hT.u.2.2.2.2.2.1; have r6 : w3.cell? ⟨C, 6, none⟩ = some (.int .i64 (x.wh)) := hT.u.2.2.2.2.2.2; have TX := Lib.hid hT; have YX := Lib.hid (show Ext w1 w3 from YW.out.trans (hx.mono YW.out.size)); clear hx hT)
            | (go_at_call 19; refine (alone_f _ _ _ _ _ _ _ n hr1 (by omega) (by with_reducible exact kU) _).mono ?_; rintro e w4 ⟨rfl, hx⟩; have hT : Tri w4 w1.heap.size A B C ⟨x.op, 31 + q, x.b, x.c, x.v, x.m, x.wh⟩ ⟨x.op, x.a, 31 + q, x.c, x.v, x.m, x.wh⟩ ⟨x.op, x.a, x.b, 31 + q, x.v, x.m, x.wh⟩ := TX.out.ext hx; skip; have TY := Lib.hid hT; have YY := Lib.hid (show Ext w1 w4 from YX.out.trans (hx.mono YX.out.size)); clear hx hT))
          have hC4 : Cel w4 w.heap.size x := CB.out.ext YY.out hz1
          have d0 : w4.cell? ⟨w.heap.size, 0, none⟩ = some (.int .i64 (x.op)) := hC4.1
          have d1 : w4.cell? ⟨w.heap.size, 1, none⟩ = some (.int .i64 (x.a)) := hC4.2.1
          have d2 : w4.cell? ⟨w.heap.size, 2, none⟩ = some (.int .i64 (x.b)) := hC4.2.2.1
          have d3 : w4.cell? ⟨w.heap.size, 3, none⟩ = some (.int .i64 (x.c)) := hC4.2.2.2.1
          have d4 : w4.cell? ⟨w.heap.size, 4, none⟩ = some (.int .u64 (x.v)) := hC4.2.2.2.2.1
          have d5 : w4.cell? ⟨w.heap.size, 5, none⟩ = some (.int .i64 (x.m)) := hC4.2.2.2.2.2.1
          have d6 : w4.cell? ⟨w.heap.size, 6, none⟩ = some (.int .i64 (x.wh)) := hC4.2.2.2.2.2.2
          have X4 := Lib.hid (show Ext w w4 from X1.out.trans (YY.out.mono X1.out.size))
          have z4 : w.heap.size < w4.heap.size := Nat.lt_of_lt_of_le hz1 YY.out.size
          clear hC4 kY kZ kU
          cases hV : fV x.op
          · have kV : mayF ⟨x.op, x.a, x.b, x.c, q, x.m, x.wh⟩ n true = false := un_V _ _ _ _ _ _ _ _ hl1 hV
            go_wp2_with (first
              | (go_at_call 19; refine (alone_f _ _ _ _ _ _ _ n hr1 (by omega) (by with_reducible exact kV) _).mono ?_; rintro e w5 ⟨rfl, hx⟩; have X5 := Lib.hid (show Ext w w5 from (X4.out.alloc X4.out.size _).trans (hx.mono (X4.out.alloc X4.out.size _).size)); clear hx)
              | (go_at_call 16; refine (awake_any _ (Gl.ext G.out X5.out)).mono ?_; rintro e w6 ⟨rfl, hx⟩; have X6 := Lib.hid (show Ext w w6 from X5.out.trans (hx.mono X5.out.size)); clear hx))
            go_ret
            exact ⟨rfl, X6.out⟩
          · go_wp2_with (first
              | (go_at_call 16; refine (awake_any _ (Gl.ext G.out (X4.out.alloc X4.out.size _))).mono ?_; rintro e w6 ⟨rfl, hx⟩; have X6 := Lib.hid (show Ext w w6 from (X4.out.alloc X4.out.size _).trans (hx.mono (X4.out.alloc X4.out.size _).size)); clear hx))
            go_ret
            exact ⟨rfl, X6.out⟩
end Go.Proofs.YtcbfaobepmhidaaDoor
