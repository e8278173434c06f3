/- Walk of the statements' 'awake': true, wherever errors.errorType holds what start-up lays. -/
import Derived.Test.YtcbfaobepmhidaaDoorC2
namespace Go.Proofs.YtcbfaobepmhidaaDoor
open Go.RowKit Go.Extern.Stop Go.Stop Go.Extern

/-- errors.errorType holds what start-up lays. -/
def Gl (w : World) : Prop := w.cell? ⟨0, 0, none⟩ = some (.iface 97 (.agg #[.pointer (some ⟨1, 26, none⟩)]))
theorem Gl.ext {w w' : World} (h : Gl w) (hx : Ext w w') : Gl w' := (hx.cell (World.block_lt_of_cell? _ _ h)).trans h

def x0 : InsD := ⟨3, 1, 2, -1, 5, 0, 0⟩
def x1 : InsD := ⟨1, 32, 0, 0, 0, 0, 0⟩
theorem chk0 (lib : Bool) : checkF [x0] (fun x => mayF x 1 lib) = none := by cases lib <;> decide
theorem chk1 : checkF [x1] (fun x => mayF x 1 true) = some ([(codeS, 0)], 5) := by rfl

theorem insAt_one {w : World} {b : Nat} {x : InsD} (h0 : w.cell? ⟨b, 0, none⟩ = some (.int .i64 x.op)) (h1 : w.cell? ⟨b, 1, none⟩ = some (.int .i64 x.a)) (h2 : w.cell? ⟨b, 2, none⟩ = some (.int .i64 x.b)) (h3 : w.cell? ⟨b, 3, none⟩ = some (.int .i64 x.c)) (h4 : w.cell? ⟨b, 4, none⟩ = some (.int .u64 x.v)) (h5 : w.cell? ⟨b, 5, none⟩ = some (.int .i64 x.m)) (h6 : w.cell? ⟨b, 6, none⟩ = some (.int .i64 x.wh)) : InsAt w b 0 [x] := by
  intro i hi
  obtain rfl : i = 0 := by simp at hi; omega
  simpa using ⟨h0, h1, h2, h3, h4, h5, h6⟩

theorem InsAt.ext {w w' : World} {b off : Nat} {l : List InsD} (h : InsAt w b off l) (hx : Ext w w') : InsAt w' b off l := by
  intro i hi
  obtain ⟨c0, c1, c2, c3, c4, c5, c6⟩ := h i hi
  have lb := World.block_lt_of_cell? _ _ c0
  exact ⟨(hx.cell (p := ⟨b, off + i * 7, none⟩) lb).trans c0, (hx.cell (p := ⟨b, off + i * 7 + 1, none⟩) lb).trans c1, (hx.cell (p := ⟨b, off + i * 7 + 2, none⟩) lb).trans c2, (hx.cell (p := ⟨b, off + i * 7 + 3, none⟩) lb).trans c3, (hx.cell (p := ⟨b, off + i * 7 + 4, none⟩) lb).trans c4, (hx.cell (p := ⟨b, off + i * 7 + 5, none⟩) lb).trans c5, (hx.cell (p := ⟨b, off + i * 7 + 6, none⟩) lb).trans c6⟩

theorem FailAt.ext {w w' : World} {b : Nat} {ls : List (ByteArray × Int)} {k : Int} (h : FailAt w b ls k) (hx : Ext w w') : FailAt w' b ls k := by
  obtain ⟨bl, bp, cl, cp, h0, h1, h2, h3, h4⟩ := h
  have lb := World.block_lt_of_cell? _ _ h0
  exact ⟨bl, bp, cl, cp, (hx.cell (p := ⟨b, 0, none⟩) lb).trans h0, (hx.cell (p := ⟨b, 1, none⟩) lb).trans h1, (hx.cell (p := ⟨b, 2, none⟩) lb).trans h2, fun i hi => (hx.cell (p := ⟨bl, i, none⟩) (World.block_lt_of_cell? _ _ (h3 i hi))).trans (h3 i hi), fun i hi => (hx.cell (p := ⟨bp, i, none⟩) (World.block_lt_of_cell? _ _ (h4 i hi))).trans (h4 i hi)⟩

theorem check_x0 (b cap : Nat) (lib : Bool) (w : World) (hi : InsAt w b 0 [x0]) : Calls Tryd.prog 13 #[.slice (some ⟨b, 0, none⟩) 1 cap, .bool lib] w fun e w' => e = .returned .nilIface ∧ Ext w w' := by
  refine (check_any b 0 cap [x0] lib (by simp) w hi).mono ?_
  rintro e w' ⟨v, rfl, hp, hx⟩
  have e0 : checkF [x0] (fun x => mayF x ([x0].length : Nat) lib) = none := chk0 lib
  rw [e0] at hp
  exact ⟨by rw [show v = .nilIface from hp], hx⟩
theorem check_x1 (b cap : Nat) (w : World) (hi : InsAt w b 0 [x1]) : Calls Tryd.prog 13 #[.slice (some ⟨b, 0, none⟩) 1 cap, .bool true] w fun e w' => ∃ v, e = .returned (.iface 67 v) ∧ Chain w' (.iface 67 v) [(codeS, 0)] 5 ∧ Ext w w' := by
  refine (check_any b 0 cap [x1] true (by simp) w hi).mono ?_
  rintro e w' ⟨v, rfl, hp, hx⟩
  have e0 : checkF [x1] (fun x => mayF x ([x1].length : Nat) true) = some ([(codeS, 0)], 5) := chk1
  rw [e0] at hp
  obtain ⟨c, rfl, hc⟩ := hp
  exact ⟨_, rfl, hc, hx⟩

set_option maxHeartbeats 2000000 in
theorem awake_any (w : World) (hg : Gl w) : Calls Tryd.prog 16 #[] w fun e w' => e = .returned (.bool true) ∧ Ext w w' := by
  have G := Lib.hid hg
  clear hg
  go_enter Tryd.func16, Tryd.ntmps16
  go_wp2_with fail
  have h0 : Ext w ((w.alloc (Obj.cells #[Value.int IntKind.i64 3, Value.int IntKind.i64 1, Value.int IntKind.i64 2, Value.int IntKind.i64 (-1), Value.int IntKind.u64 5, Value.int IntKind.i64 0, Value.int IntKind.i64 0] 42)).alloc (Obj.cells #[Value.int IntKind.i64 1, Value.int IntKind.i64 32, Value.int IntKind.i64 0, Value.int IntKind.i64 0, Value.int IntKind.u64 0, Value.int IntKind.i64 0, Value.int IntKind.i64 0] 42)) := (ext1 _ _).alloc (by simp) _
  have i0 : InsAt ((w.alloc (Obj.cells #[Value.int IntKind.i64 3, Value.int IntKind.i64 1, Value.int IntKind.i64 2, Value.int IntKind.i64 (-1), Value.int IntKind.u64 5, Value.int IntKind.i64 0, Value.int IntKind.i64 0] 42)).alloc (Obj.cells #[Value.int IntKind.i64 1, Value.int IntKind.i64 32, Value.int IntKind.i64 0, Value.int IntKind.i64 0, Value.int IntKind.u64 0, Value.int IntKind.i64 0, Value.int IntKind.i64 0] 42)) w.heap.size 0 [x0] := by
    refine insAt_one ?_ ?_ ?_ ?_ ?_ ?_ ?_ <;> simp [go_sem, x0]
  have i1 : InsAt ((w.alloc (Obj.cells #[Value.int IntKind.i64 3, Value.int IntKind.i64 1, Value.int IntKind.i64 2, Value.int IntKind.i64 (-1), Value.int IntKind.u64 5, Value.int IntKind.i64 0, Value.int IntKind.i64 0] 42)).alloc (Obj.cells #[Value.int IntKind.i64 1, Value.int IntKind.i64 32, Value.int IntKind.i64 0, Value.int IntKind.i64 0, Value.int IntKind.u64 0, Value.int IntKind.i64 0, Value.int IntKind.i64 0] 42)) (w.heap.size + 1) 0 [x1] := by
    refine insAt_one ?_ ?_ ?_ ?_ ?_ ?_ ?_ <;> simp [go_sem, x1]
  generalize (w.alloc (Obj.cells #[Value.int IntKind.i64 3, Value.int IntKind.i64 1, Value.int IntKind.i64 2, Value.int IntKind.i64 (-1), Value.int IntKind.u64 5, Value.int IntKind.i64 0, Value.int IntKind.i64 0] 42)).alloc (Obj.cells #[Value.int IntKind.i64 1, Value.int IntKind.i64 32, Value.int IntKind.i64 0, Value.int IntKind.i64 0, Value.int IntKind.u64 0, Value.int IntKind.i64 0, Value.int IntKind.i64 0] 42) = W at h0 i0 i1 ⊢
  have H0 := Lib.hid h0
  have I0 := Lib.hid i0
  have I1 := Lib.hid i1
  clear h0 i0 i1
  refine (check_x0 _ 1 true W I0.out).mono ?_
  rintro e w1 ⟨rfl, hx1⟩
  have H1 := Lib.hid hx1
  clear hx1
  go_wp2_with fail
  refine (check_x0 _ 1 false w1 (I0.out.ext H1.out)).mono ?_
  rintro e w2 ⟨rfl, hx2⟩
  have H2 := Lib.hid (H1.out.trans (hx2.mono H1.out.size))
  clear hx2
  go_wp2_with fail
  refine (check_x1 _ 1 w2 (I1.out.ext H2.out)).mono ?_
  rintro e w3 ⟨v, rfl, hc, hx3⟩
  have H3 := Lib.hid (H2.out.trans (hx3.mono H2.out.size))
  have C := Lib.hid hc
  clear hx3 hc
  go_wp2_with fail
  refine (no_any _ _ _ w3).mono ?_
  rintro e w4 ⟨b, rfl, hf, hx4⟩
  have H4 := Lib.hid (H3.out.trans (hx4.mono H3.out.size))
  have F := Lib.hid hf
  have C4 := Lib.hid (Below.chain hx4 C.out)
  clear hx4 hf
  go_wp2_with fail
  refine (same_yes w4 b 67 v (codeS, 0) [] 5 (by omega) (by omega) C4.out F.out (Gl.ext G.out (H0.out.trans (H4.out.mono H0.out.size))) (by simp)).mono ?_
  rintro e w5 ⟨rfl, hx5⟩
  have H5 := Lib.hid (H4.out.trans (hx5.mono H4.out.size))
  clear hx5
  go_wp2_with fail
  go_ret
  exact ⟨rfl, H0.out.trans (H5.out.mono H0.out.size)⟩
end Go.Proofs.YtcbfaobepmhidaaDoor
