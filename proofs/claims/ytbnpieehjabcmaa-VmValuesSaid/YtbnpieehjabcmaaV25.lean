/- Walk of VmValues: true for any instruction and any registers. -/
import Derived.Test.YtbnpieehjabcmaaV24
import Derived.OrdersHeld
namespace Go.Proofs.Ytbnpieehjabcmaa
open Go.RowKit
set_option linter.unusedSimpArgs false

set_option maxHeartbeats 8000000 in
set_option maxRecDepth 100000 in
theorem vmValues_walk (x : InsD) (hv : Rng x.v) (A : Option Addr) (cap : Nat) (vs : List Int) (hm : (vs.length : Int) ≤ 9223372036854775807) (w : World) (hi : U64Sl w A vs) :
    Calls Try.prog 3 #[insV x, .slice A vs.length cap] w fun e w' => e = .returned (.bool true) ∧ Ext w w' := by
  have HI := Lib.hid (hi.ext (ext1 w (.cells #[.int .i64 x.op, .int .i64 x.a, .int .i64 x.b, .int .i64 x.c, .int .u64 x.v, .int .i64 x.m, .int .i64 x.wh] 24)))
  have HV := Lib.hid hv
  clear hi hv
  go_enter Try.func3, Try.ntmps3
  go_wp2_with fail
  refine (frame_any 0 A cap vs hm _ HI.out).mono ?_
  rintro e w1 ⟨f, g, A1, A2, c1, c2, rfl, hF, hG, l1, l2, hfg, hx1⟩
  generalize loadR vs (min vs.length 32) = r at hF hG
  have hlen := hF.len
  generalize hB : w.heap.size = B at *
  have t0 : w1.cell? ⟨B, 0, none⟩ = some (.int .i64 x.op) ∧ w1.cell? ⟨B, 1, none⟩ = some (.int .i64 x.a) ∧ w1.cell? ⟨B, 2, none⟩ = some (.int .i64 x.b) ∧ w1.cell? ⟨B, 3, none⟩ = some (.int .i64 x.c) ∧ w1.cell? ⟨B, 4, none⟩ = some (.int .u64 x.v) ∧ w1.cell? ⟨B, 5, none⟩ = some (.int .i64 x.m) ∧ w1.cell? ⟨B, 6, none⟩ = some (.int .i64 x.wh) := by
    refine ⟨?_, ?_, ?_, ?_, ?_, ?_, ?_⟩ <;> (rw [hx1.cell (by simp [hB])]; rw [← hB]; simp)
  obtain ⟨b0, b1, b2, b3, b4, b5, b6⟩ := t0
  have lb := World.block_lt_of_cell? _ _ b0
  have F := Lib.hid hF
  have G := Lib.hid hG
  have XW := Lib.hid (show Ext w w1 from (ext1 _ _).trans (hx1.mono (by simp)))
  have rf := hF.range
  have rg := hG.range
  have he := Try.eqRegs r hlen
  have hu := Try.underlying32
  have hinf : (Try.prog.info? 32).map (·.size) = some (r.map (Value.int .u64)).length := by rw [List.length_map, hlen]; kernel_rfl
  have hgd : Try.prog.eqGuardType Try.prog.depth 32 = false := by kernel_rfl
  generalize r.map (Value.int .u64) = cs at rf rg he hinf
  have keepS : ∀ w', Ext w1 w' → w'.cell? ⟨B, 0, none⟩ = some (.int .i64 x.op) ∧ w'.cell? ⟨B, 1, none⟩ = some (.int .i64 x.a) ∧ w'.cell? ⟨B, 2, none⟩ = some (.int .i64 x.b) ∧ w'.cell? ⟨B, 3, none⟩ = some (.int .i64 x.c) ∧ w'.cell? ⟨B, 4, none⟩ = some (.int .u64 x.v) ∧ w'.cell? ⟨B, 5, none⟩ = some (.int .i64 x.m) ∧ w'.cell? ⟨B, 6, none⟩ = some (.int .i64 x.wh) ∧ w'.rangeAt f 1 cs ∧ w'.rangeAt g 1 cs := fun w' hx =>
    ⟨(hx.cell (p := ⟨B, 0, none⟩) lb).trans b0, (hx.cell (p := ⟨B, 1, none⟩) lb).trans b1, (hx.cell (p := ⟨B, 2, none⟩) lb).trans b2, (hx.cell (p := ⟨B, 3, none⟩) lb).trans b3, (hx.cell (p := ⟨B, 4, none⟩) lb).trans b4, (hx.cell (p := ⟨B, 5, none⟩) lb).trans b5, (hx.cell (p := ⟨B, 6, none⟩) lb).trans b6,
     fun j v hj => (hx.cell (p := ⟨f, 1 + j, none⟩) hF.lt).trans (rf j v hj), fun j v hj => (hx.cell (p := ⟨g, 1 + j, none⟩) hG.lt).trans (rg j v hj)⟩
  have KS := Lib.hid keepS
  have X1 := Lib.hid (show Ext w1 w1.drew from (Below.refl _ _).drew)
  clear hF hG hx1 HI keepS
  go_wp2_with fail
  refine wp_region_held_drew (S := (fun w' => w'.cell? ⟨B, 0, none⟩ = some (.int .i64 x.op) ∧ w'.cell? ⟨B, 1, none⟩ = some (.int .i64 x.a) ∧ w'.cell? ⟨B, 2, none⟩ = some (.int .i64 x.b) ∧ w'.cell? ⟨B, 3, none⟩ = some (.int .i64 x.c) ∧ w'.cell? ⟨B, 4, none⟩ = some (.int .u64 x.v) ∧ w'.cell? ⟨B, 5, none⟩ = some (.int .i64 x.m) ∧ w'.cell? ⟨B, 6, none⟩ = some (.int .i64 x.wh) ∧ w'.rangeAt f 1 cs ∧ w'.rangeAt g 1 cs)) (by kernel_rfl) (KS.out _ X1.out) (fun hHeld => ?_)
  refine wpAnyH_take (i := 0) (oi := { dst := some 12, op := Op.move (Operand.tmp 5), type := 26, pos := "law.go:100", after := #[], guard := none }) (v := ?v0) rfl (by kernel_rfl) (by kernel_rfl) (by kernel_rfl) (fun _ _ _ h => h) (Or.inl ⟨by rfl, ?y0⟩) (by assumption) ?r0
  case y0 =>
    intro w' hSw
    try dsimp only at hSw
    go_simp
    try with_reducible rfl
  try simp only [Act.put, List.setIfInBounds_toArray, List.set_cons_zero, List.set_cons_succ]
  refine wpAnyH_take (i := 1) (oi := { dst := some 13, op := Op.load 24 (Operand.tmp 2), type := 24, pos := "law.go:100", after := #[], guard := none }) (v := ?v1) rfl (by kernel_rfl) (by kernel_rfl) (by kernel_rfl) (fun _ _ _ h => h) (Or.inl ⟨by rfl, ?y1⟩) (by assumption) ?r1
  case y1 =>
    intro w' hSw
    try dsimp only at hSw
    go_simp
    try with_reducible rfl
  try simp only [Act.put, List.setIfInBounds_toArray, List.set_cons_zero, List.set_cons_succ]
  refine wpAnyH_take (i := 3) (oi := { dst := some 15, op := Op.move (Operand.tmp 6), type := 27, pos := "law.go:100", after := #[], guard := none }) (v := ?v3) rfl (by kernel_rfl) (by kernel_rfl) (by kernel_rfl) (fun _ _ _ h => h) (Or.inl ⟨by rfl, ?y3⟩) (by assumption) ?r3
  case y3 =>
    intro w' hSw
    try dsimp only at hSw
    go_simp
    try with_reducible rfl
  try simp only [Act.put, List.setIfInBounds_toArray, List.set_cons_zero, List.set_cons_succ]
  refine wpAnyH_take (i := 4) (oi := { dst := some 16, op := Op.load 24 (Operand.tmp 2), type := 24, pos := "law.go:100", after := #[], guard := none }) (v := ?v4) rfl (by kernel_rfl) (by kernel_rfl) (by kernel_rfl) (fun _ _ _ h => h) (Or.inl ⟨by rfl, ?y4⟩) (by assumption) ?r4
  case y4 =>
    intro w' hSw
    try dsimp only at hSw
    go_simp
    try with_reducible rfl
  try simp only [Act.put, List.setIfInBounds_toArray, List.set_cons_zero, List.set_cons_succ]
  refine wpAnyH_ready (rs := [2]) (by kernel_rfl) (by simp) ?_
  refine AllReadyH.cons (o := { dst := some 14, op := Op.call { callee := Callee.value (Operand.func 8), args := #[Operand.tmp 12, Operand.tmp 13], argTypes := #[26, 24] }, type := 22, pos := "law.go:100", after := #[{ on := 0, ground := Ground.data }, { on := 1, ground := Ground.data }], guard := none }) rfl (fun K hK => ?_) AllReadyH.nil
  go_simp
  go_at_call 8
  refine (value_any f 0 0 r A1 0 c1 x _ (F.out.ext X1.out)).mono ?_
  rintro e w2 ⟨rfl, hx2⟩
  have X2 := Lib.hid (X1.out.trans (hx2.mono X1.out.size))
  clear hx2
  try go_wp2_with fail
  refine hK.out _ _ (KS.out _ X2.out) (fun hHeld => ?_)
  clear hK K
  try simp only [Act.put, List.setIfInBounds_toArray, List.set_cons_zero, List.set_cons_succ]
  refine wpAnyH_ready (rs := [5]) (by kernel_rfl) (by simp) ?_
  refine AllReadyH.cons (o := { dst := some 17, op := Op.call { callee := Callee.value (Operand.func 9), args := #[Operand.tmp 15, Operand.tmp 16], argTypes := #[27, 24] }, type := 22, pos := "law.go:100", after := #[{ on := 3, ground := Ground.data }, { on := 4, ground := Ground.data }, { on := 2, ground := Ground.chain }], guard := none }) rfl (fun K hK => ?_) AllReadyH.nil
  go_simp
  go_at_call 9
  refine (rvalue_any g 0 0 r A2 0 c2 x _ (G.out.ext X2.out)).mono ?_
  rintro e w3 ⟨rfl, hx3⟩
  have X3 := Lib.hid (X2.out.trans (hx3.mono X2.out.size))
  clear hx3
  try go_wp2_with fail
  refine hK.out _ _ (KS.out _ X3.out) (fun hHeld => ?_)
  clear hK K
  try simp only [Act.put, List.setIfInBounds_toArray, List.set_cons_zero, List.set_cons_succ]
  refine wpAnyH_take (i := 6) (oi := { dst := some 18, op := Op.binOp BinOp.eql 22 (Operand.tmp 14) (Operand.tmp 17) 22, type := 4, pos := "law.go:100", after := #[{ on := 2, ground := Ground.data }, { on := 5, ground := Ground.data }], guard := none }) (v := ?v6) rfl (by kernel_rfl) (by kernel_rfl) (by kernel_rfl) (fun _ _ _ h => h) (Or.inl ⟨by rfl, ?y6⟩) (by assumption) ?r6
  case y6 =>
    intro w' hSw
    try dsimp only at hSw
    go_simp
    try with_reducible rfl
  try simp only [Act.put, List.setIfInBounds_toArray, List.set_cons_zero, List.set_cons_succ]
  refine wpAnyH_take (i := 7) (oi := { dst := some 19, op := Op.move (Operand.tmp 18), type := 4, pos := "law.go:100", after := #[{ on := 6, ground := Ground.data }, { on := 5, ground := Ground.chain }], guard := none }) (v := ?v7) rfl (by kernel_rfl) (by kernel_rfl) (by kernel_rfl) (fun _ _ _ h => h) (Or.inl ⟨by rfl, ?y7⟩) (by assumption) ?r7
  case y7 =>
    intro w' hSw
    try dsimp only at hSw
    go_simp
    try with_reducible rfl
  try simp only [Act.put, List.setIfInBounds_toArray, List.set_cons_zero, List.set_cons_succ]
  refine wpAnyH_take (i := 8) (oi := { dst := some 20, op := Op.move (Operand.tmp 5), type := 26, pos := "law.go:100", after := #[{ on := 7, ground := Ground.guard }], guard := some (7, true) }) (v := ?v8) rfl (by kernel_rfl) (by kernel_rfl) (by kernel_rfl) (fun _ _ _ h => h) (Or.inl ⟨by rfl, ?y8⟩) (by assumption) ?r8
  case y8 =>
    intro w' hSw
    try dsimp only at hSw
    go_simp
    try with_reducible rfl
  try simp only [Act.put, List.setIfInBounds_toArray, List.set_cons_zero, List.set_cons_succ]
  refine wpAnyH_take (i := 9) (oi := { dst := some 21, op := Op.load 24 (Operand.tmp 2), type := 24, pos := "law.go:100", after := #[{ on := 7, ground := Ground.guard }], guard := some (7, true) }) (v := ?v9) rfl (by kernel_rfl) (by kernel_rfl) (by kernel_rfl) (fun _ _ _ h => h) (Or.inl ⟨by rfl, ?y9⟩) (by assumption) ?r9
  case y9 =>
    intro w' hSw
    try dsimp only at hSw
    go_simp
    try with_reducible rfl
  try simp only [Act.put, List.setIfInBounds_toArray, List.set_cons_zero, List.set_cons_succ]
  refine wpAnyH_take (i := 11) (oi := { dst := some 23, op := Op.move (Operand.tmp 6), type := 27, pos := "law.go:100", after := #[{ on := 7, ground := Ground.guard }], guard := some (7, true) }) (v := ?v11) rfl (by kernel_rfl) (by kernel_rfl) (by kernel_rfl) (fun _ _ _ h => h) (Or.inl ⟨by rfl, ?y11⟩) (by assumption) ?r11
  case y11 =>
    intro w' hSw
    try dsimp only at hSw
    go_simp
    try with_reducible rfl
  try simp only [Act.put, List.setIfInBounds_toArray, List.set_cons_zero, List.set_cons_succ]
  refine wpAnyH_take (i := 12) (oi := { dst := some 24, op := Op.load 24 (Operand.tmp 2), type := 24, pos := "law.go:100", after := #[{ on := 7, ground := Ground.guard }], guard := some (7, true) }) (v := ?v12) rfl (by kernel_rfl) (by kernel_rfl) (by kernel_rfl) (fun _ _ _ h => h) (Or.inl ⟨by rfl, ?y12⟩) (by assumption) ?r12
  case y12 =>
    intro w' hSw
    try dsimp only at hSw
    go_simp
    try with_reducible rfl
  try simp only [Act.put, List.setIfInBounds_toArray, List.set_cons_zero, List.set_cons_succ]
  refine wpAnyH_ready (rs := [10]) (by kernel_rfl) (by simp) ?_
  refine AllReadyH.cons (o := { dst := some 22, op := Op.call { callee := Callee.value (Operand.func 10), args := #[Operand.tmp 20, Operand.tmp 21], argTypes := #[26, 24] }, type := 22, pos := "law.go:100", after := #[{ on := 8, ground := Ground.data }, { on := 9, ground := Ground.data }, { on := 7, ground := Ground.chain }, { on := 7, ground := Ground.guard }], guard := some (7, true) }) rfl (fun K hK => ?_) AllReadyH.nil
  go_simp
  go_at_call 10
  refine (address_any f 0 0 r A1 0 c1 x _ (F.out.ext X3.out)).mono ?_
  rintro e w4 ⟨rfl, hx4⟩
  have X4 := Lib.hid (X3.out.trans (hx4.mono X3.out.size))
  clear hx4
  try go_wp2_with fail
  refine hK.out _ _ (KS.out _ X4.out) (fun hHeld => ?_)
  clear hK K
  try simp only [Act.put, List.setIfInBounds_toArray, List.set_cons_zero, List.set_cons_succ]
  refine wpAnyH_ready (rs := [13]) (by kernel_rfl) (by simp) ?_
  refine AllReadyH.cons (o := { dst := some 25, op := Op.call { callee := Callee.value (Operand.func 11), args := #[Operand.tmp 23, Operand.tmp 24], argTypes := #[27, 24] }, type := 22, pos := "law.go:100", after := #[{ on := 11, ground := Ground.data }, { on := 12, ground := Ground.data }, { on := 10, ground := Ground.chain }, { on := 7, ground := Ground.guard }], guard := some (7, true) }) rfl (fun K hK => ?_) AllReadyH.nil
  go_simp
  go_at_call 11
  refine (raddress_any g 0 0 r A2 0 c2 x _ (G.out.ext X4.out) HV.out.1 HV.out.2).mono ?_
  rintro e w5 ⟨rfl, hx5⟩
  have X5 := Lib.hid (X4.out.trans (hx5.mono X4.out.size))
  clear hx5
  try go_wp2_with fail
  refine hK.out _ _ (KS.out _ X5.out) (fun hHeld => ?_)
  clear hK K
  try simp only [Act.put, List.setIfInBounds_toArray, List.set_cons_zero, List.set_cons_succ]
  refine wpAnyH_take (i := 14) (oi := { dst := some 26, op := Op.binOp BinOp.eql 22 (Operand.tmp 22) (Operand.tmp 25) 22, type := 4, pos := "law.go:100", after := #[{ on := 10, ground := Ground.data }, { on := 13, ground := Ground.data }, { on := 7, ground := Ground.guard }], guard := some (7, true) }) (v := ?v14) rfl (by kernel_rfl) (by kernel_rfl) (by kernel_rfl) (fun _ _ _ h => h) (Or.inl ⟨by rfl, ?y14⟩) (by assumption) ?r14
  case y14 =>
    intro w' hSw
    try dsimp only at hSw
    go_simp
    try with_reducible rfl
  try simp only [Act.put, List.setIfInBounds_toArray, List.set_cons_zero, List.set_cons_succ]
  refine wpAnyH_take (i := 15) (oi := { dst := some 27, op := Op.pick (Operand.tmp 19) (Operand.tmp 26) (Operand.const (Value.bool false)), type := 4, pos := "law.go:100", after := #[{ on := 7, ground := Ground.data }, { on := 14, ground := Ground.data }], guard := none }) (v := ?v15) rfl (by kernel_rfl) (by kernel_rfl) (by kernel_rfl) (fun _ _ _ h => h) (Or.inl ⟨by rfl, ?y15⟩) (by assumption) ?r15
  case y15 =>
    intro w' hSw
    try dsimp only at hSw
    go_simp
    try with_reducible rfl
  try simp only [Act.put, List.setIfInBounds_toArray, List.set_cons_zero, List.set_cons_succ]
  refine wpAnyH_take (i := 16) (oi := { dst := some 28, op := Op.move (Operand.tmp 27), type := 4, pos := "law.go:100", after := #[{ on := 15, ground := Ground.data }, { on := 13, ground := Ground.chain }], guard := none }) (v := ?v16) rfl (by kernel_rfl) (by kernel_rfl) (by kernel_rfl) (fun _ _ _ h => h) (Or.inl ⟨by rfl, ?y16⟩) (by assumption) ?r16
  case y16 =>
    intro w' hSw
    try dsimp only at hSw
    go_simp
    try with_reducible rfl
  try simp only [Act.put, List.setIfInBounds_toArray, List.set_cons_zero, List.set_cons_succ]
  refine wpAnyH_take (i := 17) (oi := { dst := some 29, op := Op.move (Operand.tmp 5), type := 26, pos := "law.go:100", after := #[{ on := 16, ground := Ground.guard }], guard := some (16, true) }) (v := ?v17) rfl (by kernel_rfl) (by kernel_rfl) (by kernel_rfl) (fun _ _ _ h => h) (Or.inl ⟨by rfl, ?y17⟩) (by assumption) ?r17
  case y17 =>
    intro w' hSw
    try dsimp only at hSw
    go_simp
    try with_reducible rfl
  try simp only [Act.put, List.setIfInBounds_toArray, List.set_cons_zero, List.set_cons_succ]
  refine wpAnyH_take (i := 18) (oi := { dst := some 30, op := Op.nilCheck (Operand.tmp 29), type := 0, pos := "law.go:100", after := #[{ on := 17, ground := Ground.data }, { on := 16, ground := Ground.guard }], guard := some (16, true) }) (v := ?v18) rfl (by kernel_rfl) (by kernel_rfl) (by kernel_rfl) (fun _ _ _ h => h) (Or.inl ⟨by rfl, ?y18⟩) (by assumption) ?r18
  case y18 =>
    intro w' hSw
    try dsimp only at hSw
    go_simp
    try with_reducible rfl
  try simp only [Act.put, List.setIfInBounds_toArray, List.set_cons_zero, List.set_cons_succ]
  refine wpAnyH_take (i := 19) (oi := { dst := some 31, op := Op.fieldAddr 35 (Operand.tmp 30) 1, type := 0, pos := "law.go:100", after := #[{ on := 18, ground := Ground.data }, { on := 16, ground := Ground.guard }], guard := some (16, true) }) (v := ?v19) rfl (by kernel_rfl) (by kernel_rfl) (by kernel_rfl) (fun _ _ _ h => h) (Or.inl ⟨by rfl, ?y19⟩) (by assumption) ?r19
  case y19 =>
    intro w' hSw
    try dsimp only at hSw
    go_simp
    try with_reducible rfl
  try simp only [Act.put, List.setIfInBounds_toArray, List.set_cons_zero, List.set_cons_succ]
  refine' wpAnyH_take (i := 20) (oi := { dst := some 32, op := Op.load 32 (Operand.tmp 31), type := 32, pos := "law.go:100", after := #[{ on := 19, ground := Ground.data }, { on := 16, ground := Ground.guard }], guard := some (16, true) }) (v := _) rfl (by kernel_rfl) (by kernel_rfl) (by kernel_rfl) (fun _ _ _ h => h) (yieldsIf_load_mid (by rfl) _ _ rfl _ _ rfl _ _ ?s20 ?u20 ?d20 ?i20) (by assumption) ?r20
  case s20 => (intro w' hSw; (try dsimp only at hSw); go_split_ands; assumption)
  case u20 => exact hu
  case d20 => rfl
  case i20 => exact hinf
  try simp only [Act.put, List.setIfInBounds_toArray, List.set_cons_zero, List.set_cons_succ]
  refine wpAnyH_take (i := 21) (oi := { dst := some 33, op := Op.move (Operand.tmp 6), type := 27, pos := "law.go:100", after := #[{ on := 16, ground := Ground.guard }], guard := some (16, true) }) (v := ?v21) rfl (by kernel_rfl) (by kernel_rfl) (by kernel_rfl) (fun _ _ _ h => h) (Or.inl ⟨by rfl, ?y21⟩) (by assumption) ?r21
  case y21 =>
    intro w' hSw
    try dsimp only at hSw
    go_simp
    try with_reducible rfl
  try simp only [Act.put, List.setIfInBounds_toArray, List.set_cons_zero, List.set_cons_succ]
  refine wpAnyH_take (i := 22) (oi := { dst := some 34, op := Op.nilCheck (Operand.tmp 33), type := 0, pos := "law.go:100", after := #[{ on := 21, ground := Ground.data }, { on := 16, ground := Ground.guard }], guard := some (16, true) }) (v := ?v22) rfl (by kernel_rfl) (by kernel_rfl) (by kernel_rfl) (fun _ _ _ h => h) (Or.inl ⟨by rfl, ?y22⟩) (by assumption) ?r22
  case y22 =>
    intro w' hSw
    try dsimp only at hSw
    go_simp
    try with_reducible rfl
  try simp only [Act.put, List.setIfInBounds_toArray, List.set_cons_zero, List.set_cons_succ]
  refine wpAnyH_take (i := 23) (oi := { dst := some 35, op := Op.fieldAddr 36 (Operand.tmp 34) 1, type := 0, pos := "law.go:100", after := #[{ on := 22, ground := Ground.data }, { on := 16, ground := Ground.guard }], guard := some (16, true) }) (v := ?v23) rfl (by kernel_rfl) (by kernel_rfl) (by kernel_rfl) (fun _ _ _ h => h) (Or.inl ⟨by rfl, ?y23⟩) (by assumption) ?r23
  case y23 =>
    intro w' hSw
    try dsimp only at hSw
    go_simp
    try with_reducible rfl
  try simp only [Act.put, List.setIfInBounds_toArray, List.set_cons_zero, List.set_cons_succ]
  refine' wpAnyH_take (i := 24) (oi := { dst := some 36, op := Op.load 32 (Operand.tmp 35), type := 32, pos := "law.go:100", after := #[{ on := 23, ground := Ground.data }, { on := 16, ground := Ground.guard }], guard := some (16, true) }) (v := _) rfl (by kernel_rfl) (by kernel_rfl) (by kernel_rfl) (fun _ _ _ h => h) (yieldsIf_load_mid (by rfl) _ _ rfl _ _ rfl _ _ ?s24 ?u24 ?d24 ?i24) (by assumption) ?r24
  case s24 => (intro w' hSw; (try dsimp only at hSw); go_split_ands; assumption)
  case u24 => exact hu
  case d24 => rfl
  case i24 => exact hinf
  try simp only [Act.put, List.setIfInBounds_toArray, List.set_cons_zero, List.set_cons_succ]
  refine wpAnyH_take (i := 25) (oi := { dst := some 37, op := Op.binOp BinOp.eql 32 (Operand.tmp 32) (Operand.tmp 36) 32, type := 4, pos := "law.go:100", after := #[{ on := 20, ground := Ground.data }, { on := 24, ground := Ground.data }, { on := 16, ground := Ground.guard }], guard := some (16, true) }) (v := ?v25) rfl (by kernel_rfl) (by kernel_rfl) (by kernel_rfl) (fun _ _ _ h => h) (Or.inl ⟨by rfl, ?y25⟩) (by assumption) ?r25
  case y25 =>
    intro w' hSw
    try dsimp only at hSw
    go_simp
    try with_reducible rfl
  try simp only [Act.put, List.setIfInBounds_toArray, List.set_cons_zero, List.set_cons_succ]
  refine wpAnyH_take (i := 26) (oi := { dst := some 38, op := Op.pick (Operand.tmp 28) (Operand.tmp 37) (Operand.const (Value.bool false)), type := 4, pos := "law.go:100", after := #[{ on := 16, ground := Ground.data }, { on := 25, ground := Ground.data }], guard := none }) (v := ?v26) rfl (by kernel_rfl) (by kernel_rfl) (by kernel_rfl) (fun _ _ _ h => h) (Or.inl ⟨by rfl, ?y26⟩) (by assumption) ?r26
  case y26 =>
    intro w' hSw
    try dsimp only at hSw
    go_simp
    try with_reducible rfl
  try simp only [Act.put, List.setIfInBounds_toArray, List.set_cons_zero, List.set_cons_succ]
  refine wpAnyH_take (i := 27) (oi := { dst := some 39, op := Op.move (Operand.tmp 38), type := 4, pos := "law.go:100", after := #[{ on := 26, ground := Ground.data }, { on := 16, ground := Ground.chain }], guard := none }) (v := ?v27) rfl (by kernel_rfl) (by kernel_rfl) (by kernel_rfl) (fun _ _ _ h => h) (Or.inl ⟨by rfl, ?y27⟩) (by assumption) ?r27
  case y27 =>
    intro w' hSw
    try dsimp only at hSw
    go_simp
    try with_reducible rfl
  try simp only [Act.put, List.setIfInBounds_toArray, List.set_cons_zero, List.set_cons_succ]
  refine wpAnyH_ready (rs := [28]) (by kernel_rfl) (by simp) ?_
  refine AllReadyH.cons (o := { dst := some 40, op := Op.call { callee := Callee.value (Operand.func 12), args := #[], argTypes := #[] }, type := 4, pos := "law.go:100", after := #[{ on := 27, ground := Ground.chain }, { on := 27, ground := Ground.guard }], guard := some (27, true) }) rfl (fun K hK => ?_) AllReadyH.nil
  go_simp
  go_at_call 12
  refine (vawake _).mono ?_
  rintro e w6 ⟨rfl, hx6⟩
  have X6 := Lib.hid (X5.out.trans (hx6.mono X5.out.size))
  clear hx6
  try go_wp2_with fail
  refine hK.out _ _ (KS.out _ X6.out) (fun hHeld => ?_)
  clear hK K
  try simp only [Act.put, List.setIfInBounds_toArray, List.set_cons_zero, List.set_cons_succ]
  refine wpAnyH_take (i := 29) (oi := { dst := some 41, op := Op.pick (Operand.tmp 39) (Operand.tmp 40) (Operand.const (Value.bool false)), type := 4, pos := "law.go:100", after := #[{ on := 27, ground := Ground.data }, { on := 28, ground := Ground.data }], guard := none }) (v := ?v29) rfl (by kernel_rfl) (by kernel_rfl) (by kernel_rfl) (fun _ _ _ h => h) (Or.inl ⟨by rfl, ?y29⟩) (by assumption) ?r29
  case y29 =>
    intro w' hSw
    try dsimp only at hSw
    go_simp
    try with_reducible rfl
  try simp only [Act.put, List.setIfInBounds_toArray, List.set_cons_zero, List.set_cons_succ]
  refine wpAnyH_take (i := 30) (oi := { dst := some 4, op := Op.assign (Operand.tmp 41), type := 4, pos := "law.go:100", after := #[{ on := 29, ground := Ground.data }, { on := 28, ground := Ground.chain }, { on := 0, ground := Ground.phase }, { on := 1, ground := Ground.phase }, { on := 2, ground := Ground.phase }, { on := 3, ground := Ground.phase }, { on := 4, ground := Ground.phase }, { on := 5, ground := Ground.phase }, { on := 6, ground := Ground.phase }, { on := 7, ground := Ground.phase }, { on := 8, ground := Ground.phase }, { on := 9, ground := Ground.phase }, { on := 10, ground := Ground.phase }, { on := 11, ground := Ground.phase }, { on := 12, ground := Ground.phase }, { on := 13, ground := Ground.phase }, { on := 14, ground := Ground.phase }, { on := 15, ground := Ground.phase }, { on := 16, ground := Ground.phase }, { on := 17, ground := Ground.phase }, { on := 18, ground := Ground.phase }, { on := 19, ground := Ground.phase }, { on := 20, ground := Ground.phase }, { on := 21, ground := Ground.phase }, { on := 22, ground := Ground.phase }, { on := 23, ground := Ground.phase }, { on := 24, ground := Ground.phase }, { on := 25, ground := Ground.phase }, { on := 26, ground := Ground.phase }, { on := 27, ground := Ground.phase }, { on := 28, ground := Ground.phase }, { on := 29, ground := Ground.phase }], guard := none }) (v := ?v30) rfl (by kernel_rfl) (by kernel_rfl) (by kernel_rfl) (fun _ _ _ h => h) (Or.inl ⟨by rfl, ?y30⟩) (by assumption) ?r30
  case y30 =>
    intro w' hSw
    try dsimp only at hSw
    go_simp
    try with_reducible rfl
  try simp only [Act.put, List.setIfInBounds_toArray, List.set_cons_zero, List.set_cons_succ]
  refine wpAnyH_done (by kernel_rfl) ?_ _
  go_wp2_with fail
  go_ret
  exact ⟨rfl, XW.out.trans (X6.out.mono XW.out.size)⟩
end Go.Proofs.Ytbnpieehjabcmaa
