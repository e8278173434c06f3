/- Walk of the statements' 'awake': true. -/
import Derived.Test.YtoncebfhkoabaaaDoorV14
import Derived.Test.YtoncebfhkoabaaaDoorV17
import Derived.BigRegion
namespace Go.Proofs.YtoncebfhkoabaaaDoor
open Go.RowKit

def frCells (pc : Int) (r : List Int) : Array Value := (.int .i64 pc :: (r.map (Value.int .u64) ++ [.slice none 0 0])).toArray
theorem fr_new (W : World) (pc : Int) (r : List Int) (h : r.length = 32) : FrAt (W.alloc (.cells (frCells pc r) 50)) W.heap.size 0 pc r none 0 0 := by
  refine ⟨?_, h, fun i hi => ?_, ?_, fun i _ => ?_⟩
  · rw [World.cell?_alloc_at _ _ _ _ rfl]; simp [frCells]
  · rw [World.cell?_alloc_at _ _ _ _ rfl]
    have e : (0 + 1 + i) = i + 1 := by omega
    rw [e]
    simp only [frCells, List.getElem?_toArray, List.getElem?_cons_succ]
    rw [List.getElem?_append_left (by simp; omega), List.getElem?_map, List.getD_eq_getElem?_getD, List.getElem?_eq_getElem (by omega)]
    rfl
  · rw [World.cell?_alloc_at _ _ _ _ rfl]
    simp only [frCells, List.getElem?_toArray, Nat.zero_add, List.getElem?_cons_succ]
    rw [List.getElem?_append_right (by simp; omega)]
    simp [h]
  · exact World.frozen?_alloc_at _ _ _ _ rfl
theorem frb_new (M : Nat → Prop) (W : World) (pc : Int) (r : List Int) (h : r.length = 32) : FrB M (W.alloc (.cells (frCells pc r) 50)) W.heap.size 0 pc r [] :=
  ⟨none, 0, fr_new W pc r h, fun hn => absurd rfl hn, by simp, fun hn => absurd rfl hn⟩
theorem both3 (a : Nat) (W : World) (h : W.cell? ⟨a, 0, none⟩ = some (.int .u64 3)) : Calls Tryd.prog 5 #[.slice (some ⟨a, 0, none⟩) 1 1] W (BothPost W [3] 1) :=
  both_any (some ⟨a, 0, none⟩) 1 [3] (by simp) W (fun _ => ⟨a, 0, rfl, fun i hi => by
    obtain rfl : i = 0 := by simp at hi; omega
    simpa using h⟩) (fun i => by
    cases i with
    | zero => exact ⟨by decide, by decide⟩
    | succ i => exact ⟨by simp, by simp⟩)

theorem ins_two (W : World) (O : Obj) (x y : InsD) : InsAt ((W.alloc O).alloc (.cells #[.int .i64 x.op, .int .i64 x.a, .int .i64 x.b, .int .i64 x.c, .int .u64 x.v, .int .i64 x.m, .int .i64 x.wh, .int .i64 y.op, .int .i64 y.a, .int .i64 y.b, .int .i64 y.c, .int .u64 y.v, .int .i64 y.m, .int .i64 y.wh] 52)) (W.heap.size + 1) 0 [x, y] := by
  intro i hi
  have e : i = 0 ∨ i = 1 := by simp at hi; omega
  rcases e with rfl | rfl <;> simp
theorem InsAt.upto {S : Nat → Prop} {w w' : World} {b off : Nat} {l : List InsD} (h : InsAt w b off l) (hx : Upto S w w') (hs : ¬ S b) : InsAt w' b off l := by
  intro i hi
  obtain ⟨c0, c1, c2, c3, c4, c5, c6⟩ := h i hi
  have lb := World.block_lt_of_cell? _ _ c0
  exact ⟨(hx.cell (p := ⟨b, off + i * 7, none⟩) lb hs).trans c0, (hx.cell (p := ⟨b, off + i * 7 + 1, none⟩) lb hs).trans c1, (hx.cell (p := ⟨b, off + i * 7 + 2, none⟩) lb hs).trans c2, (hx.cell (p := ⟨b, off + i * 7 + 3, none⟩) lb hs).trans c3, (hx.cell (p := ⟨b, off + i * 7 + 4, none⟩) lb hs).trans c4, (hx.cell (p := ⟨b, off + i * 7 + 5, none⟩) lb hs).trans c5, (hx.cell (p := ⟨b, off + i * 7 + 6, none⟩) lb hs).trans c6⟩
def ar0 : List Int := [0, 3, 9, 18446744073709551615, 0, 0, 0, 0, 0, 0, 0, 0, 0, 0, 0, 0, 0, 0, 0, 0, 0, 0, 0, 0, 0, 0, 0, 0, 0, 0, 0, 0]
def ar2 : List Int := [0, 3, 8, 18446744073709551615, 0, 0, 0, 0, 0, 0, 0, 0, 0, 0, 0, 0, 0, 0, 0, 0, 0, 0, 0, 0, 0, 0, 0, 0, 0, 0, 0, 0]
def ai1 : InsD := ⟨21, 1, -1, 2, 0, 0, 0⟩
def ai2 : InsD := ⟨3, 2, 2, 3, 0, 0, 0⟩
def Mab (fb m c : Nat) (q : Nat) : Prop := q = fb ∨ q = m ∨ q = c
section
variable (W : World) (fb lb m c d : Nat) (th : Int)
theorem aw_step1 (hF : FrB (Mab fb m c) W fb 0 (0 : Nat) ar0 []) (hI : InsAt W lb 0 [ai1, ai2]) (hM : MemAt W m c d (laid [3] 1) ws12 th 1) (h1 : fb ≠ m) (h2 : fb ≠ c) (h3 : fb ≠ d) :
    Calls Tryd.prog 10 #[.pointer (some ⟨fb, 0, none⟩), .slice (some ⟨lb, 0, none⟩) 2 2, .iface 25 (.pointer (some ⟨m, 0, none⟩))] W fun e w' =>
      e = .returned (.tuple #[.int .i64 0, .nilIface]) ∧ FrB (Mab fb m c) w' fb 0 (1 : Nat) ar0 [] ∧ MemAt w' m c d ((laid [3] 1).set 0 9) ws12 th 2 ∧ Upto (Mab fb m c) W w' :=
  step_cell (Mab fb m c) fb 0 lb 0 2 [ai1, ai2] ar0 [] m W m c d ((laid [3] 1).set 0 9) ws12 th 2 0 21 1 (-1) 2 0 0 0 3 hF hI (by simp) (by simp) rfl (by rfl) (by omega) (by omega) (by omega) (.inl rfl) (.inr (.inl rfl)) (.inr (.inr rfl)) h1 h2 h3 hM.lm hM.lc
    (fun W' hx => by
      obtain ⟨A2, cap, hFr, _, _, _⟩ := hF
      exact vaccess_21 m c d (laid [3] 1) ws12 th 1 W' fb 0 0 ar0 A2 0 cap 1 (-1) 2 0 0 0 0 (hFr.ext hx) (hM.ext hx) (by omega) (by omega) (by omega) (by omega) (by decide) (by decide) (by omega) (by omega) rfl)
theorem aw_step2 (hF : FrB (Mab fb m c) W fb 0 (1 : Nat) ar0 []) (hI : InsAt W lb 0 [ai1, ai2]) :
    Calls Tryd.prog 10 #[.pointer (some ⟨fb, 0, none⟩), .slice (some ⟨lb, 0, none⟩) 2 2, .iface 25 (.pointer (some ⟨m, 0, none⟩))] W (StepPost (Mab fb m c) W fb 0 0 2 ar2 []) :=
  step_reckon (Mab fb m c) fb 0 lb 0 2 [ai1, ai2] ar0 [] _ W 1 3 2 2 3 0 0 0 hF hI (by simp) (by simp) rfl (by rfl) (by omega) (by omega) (by omega) (.inl rfl)
end

set_option maxHeartbeats 8000000 in
set_option maxRecDepth 100000 in
theorem vawake (w : World) : Calls Tryd.prog 6 #[] w fun e w' => e = .returned (.bool true) ∧ Ext w w' := by
  go_enter Tryd.func6, Tryd.ntmps6
  go_wp2_with fail
  refine (both3 w.heap.size _ (by simp)).mono ?_
  rintro e w1 ⟨m, c, d, m2, c2, d2, rfl, hT, hx1⟩
  have X1 := Lib.hid (show Ext w w1 from (ext1 w _).trans (hx1.mono (by simp)))
  have P1 := Lib.hid hT.p
  have B1 := Lib.hid (show w.heap.size ≤ m ∧ w.heap.size ≤ c ∧ w.heap.size ≤ d by have h1 := hT.h1; have h2 := hT.h2; have h3 := hT.h3; simp at h1 h2 h3; omega)
  clear hT hx1
  go_upto_region 5 with fail
  go_region
  go_wp2_with fail
  have lm := P1.out.lm
  have lc := P1.out.lc
  have ld := P1.out.ld
  have hE : ∀ o1 o2, Ext w1 ((w1.alloc o1).alloc o2).drew := fun o1 o2 => ((ext1 w1 o1).alloc (by simp) o2).drew
  refine (aw_step1 _ w1.heap.size (w1.heap.size + 1) m c d 11 ((frb_new _ w1 0 ar0 rfl).ext ((ext1 _ _).drew)) ((ins_two w1 _ ai1 ai2).ext (Below.refl _ _).drew) (P1.out.ext (hE _ _)) (by omega) (by omega) (by omega)).mono ?_
  rintro e w2 ⟨rfl, hF2, hM2, hU2⟩
  have F2 := Lib.hid hF2
  have M2 := Lib.hid hM2
  have I2 := Lib.hid (((ins_two w1 _ ai1 ai2).ext (Below.refl _ _).drew).upto hU2 (by unfold Mab; omega))
  have X2 := Lib.hid (show Ext w w2 from (X1.out.trans ((hE _ _).mono X1.out.size)).trans (hU2.below (by have := X1.out.size; simp; omega) (by have h1 := X1.out.size; have h2 := B1.out; unfold Mab; rintro k (rfl | rfl | rfl) <;> omega)))
  clear hF2 hM2 hU2 hE
  go_wp2_with fail
  refine (aw_step2 w2 w1.heap.size (w1.heap.size + 1) m c F2.out I2.out).mono ?_
  rintro e w3 ⟨rfl, hF3, hU3⟩
  obtain ⟨A3, cap3, hF3', _, _, _⟩ := hF3
  have p0 := hF3'.pc
  have p1 := hF3'.r 1 (by omega)
  have p2 := hF3'.r 2 (by omega)
  have X3 := Lib.hid (show Ext w w3 from X2.out.trans (hU3.below X2.out.size (by have := X1.out.size; rintro k rfl; omega)))
  have M3 := Lib.hid (M2.out.upto hU3 (by omega) (by omega) (by omega))
  have HF3 := Lib.hid hF3'
  clear hU3 hF3'
  go_wp2_with fail
  refine (load_hit m c d _ ws12 11 2 w3 0 M3.out (by decide) (by decide) (by omega) (by omega)).mono ?_
  rintro e w4 ⟨rfl, hM4, hU4⟩
  have hF4 := HF3.out.upto hU4 (by omega)
  have q0 : w4.cell? ⟨w1.heap.size, 0, none⟩ = some (.int .i64 2) := hF4.pc
  have q1 : w4.cell? ⟨w1.heap.size, 2, none⟩ = some (.int .u64 3) := hF4.r 1 (by omega)
  have q2 : w4.cell? ⟨w1.heap.size, 3, none⟩ = some (.int .u64 8) := hF4.r 2 (by omega)
  have X4 := Lib.hid (show Ext w w4 from X3.out.trans (hU4.below X3.out.size (by have h2 := B1.out; rintro k (rfl | rfl) <;> omega)))
  have hv : ((laid [3] 1).set 0 9).getD 0 0 = 9 := rfl
  rw [hv]
  clear hM4 hU4 hF4 p0 p1 p2
  go_wp2_with fail
  go_ret
  exact ⟨rfl, X4.out⟩
end Go.Proofs.YtoncebfhkoabaaaDoor
