/- Walk of CopyProg. -/
import Derived.Test.YtcbfaobepmhidaaDoorD6
namespace Go.Proofs.YtcbfaobepmhidaaDoor
open Go.RowKit Go.Extern.Stop Go.Stop Go.Extern

theorem InsSl.setCell {w : World} {A : Option Addr} {l : List InsD} (h : InsSl w A l) {p : Addr} (hp : l ≠ [] → ∀ a, A = some a → a.block ≠ p.block) (u : Value) : InsSl (w.setCell p u) A l := by
  intro hn
  obtain ⟨b, off, e, hi⟩ := h hn
  have hb : b ≠ p.block := hp hn _ e
  refine ⟨b, off, e, fun i hl => ?_⟩
  obtain ⟨c0, c1, c2, c3, c4, c5, c6⟩ := hi i hl
  refine ⟨?_, ?_, ?_, ?_, ?_, ?_, ?_⟩ <;> (rw [World.cell?_setCell_far _ _ _ _ (fun e => hb e.symm)]; assumption)

theorem results_cell {P : Program} {fn : Func} {p : Tmp} {ty : TypeId} (h : fn.results = #[.cell p ty]) (tmps : Array Value) (w : World) :
    (results fn tmps).run P w = ((asAddr (tmps.getD p undef)).run P w).andThen fun a w₁ => (loadVar ty a).run P w₁ := by
  simp only [results, h]
  simp [Sem.run_bind, Result.andThen]
set_option maxHeartbeats 4000000 in
set_option maxRecDepth 100000 in
theorem copyProg_any (A : Option Addr) (cap : Nat) (l : List InsD) (en wd nr : Int) (hb : l.length * 56 ≤ 140737488355328) (w : World) (hi : InsSl w A l) :
    Calls Tryd.prog 22 #[.agg #[.slice A l.length cap, .int .i64 en, .int .i64 wd, .int .i64 nr]] w fun e w' => ∃ A' c, e = .returned (.agg #[.slice A' l.length c, .int .i64 en, .int .i64 wd, .int .i64 nr]) ∧ InsSl w' A' l ∧ l.length ≤ c ∧ Ext w w' := by
  have HI := Lib.hid hi
  clear hi
  go_enter Tryd.func22, Tryd.ntmps22
  go_wp2_with fail
  have h := copyCode_any A cap l hb _ ((HI.out.ext (ext1 w (.cells #[.slice A l.length cap, .int .i64 en, .int .i64 wd, .int .i64 nr] 49))).ext (ext1 _ (.cells #[.slice none 0 0, .int .i64 0, .int .i64 0, .int .i64 0] 49)))
  refine h.mono ?_
  rintro e w1 ⟨A', c, rfl, hi1, hc1, hx⟩
  have X0 : Ext (w.alloc (.cells #[.slice A l.length cap, .int .i64 en, .int .i64 wd, .int .i64 nr] 49)) w1 := (ext1 _ _).trans (hx.mono (by simp))
  have c0 : w1.cell? ⟨w.heap.size, 0, none⟩ = some (.slice A l.length cap) := by rw [X0.cell (by simp)]; simp
  have c1 : w1.cell? ⟨w.heap.size, 1, none⟩ = some (.int .i64 en) := by rw [X0.cell (by simp)]; simp
  have c2 : w1.cell? ⟨w.heap.size, 2, none⟩ = some (.int .i64 wd) := by rw [X0.cell (by simp)]; simp
  have c3 : w1.cell? ⟨w.heap.size, 3, none⟩ = some (.int .i64 nr) := by rw [X0.cell (by simp)]; simp
  have farc : ∀ k, 4 ≤ k → w1.cell? ⟨w.heap.size, k, none⟩ = none := by
    intro k hk
    rw [X0.cell (by simp), World.cell?_alloc_at _ _ _ _ rfl]
    exact Array.getElem?_eq_none (by simpa using hk)
  have z0 : w1.frozen? ⟨w.heap.size, 0, none⟩ = false := by rw [X0.frozen (by simp)]; exact World.frozen?_alloc_at _ _ _ _ rfl
  obtain ⟨w0, hw0⟩ : ∃ w0, w.alloc (.cells #[.slice A l.length cap, .int .i64 en, .int .i64 wd, .int .i64 nr] 49) = w0 := ⟨_, rfl⟩
  have n0 : w0.heap.size = w.heap.size + 1 := by rw [← hw0]; simp
  rw [hw0] at hx
  have d0 : w1.cell? ⟨w0.heap.size, 0, none⟩ = some (.slice none 0 0) := by rw [hx.cell (by simp)]; simp
  have d1 : w1.cell? ⟨w0.heap.size, 1, none⟩ = some (.int .i64 0) := by rw [hx.cell (by simp)]; simp
  have d2 : w1.cell? ⟨w0.heap.size, 2, none⟩ = some (.int .i64 0) := by rw [hx.cell (by simp)]; simp
  have d3 : w1.cell? ⟨w0.heap.size, 3, none⟩ = some (.int .i64 0) := by rw [hx.cell (by simp)]; simp
  have fard : ∀ k, 4 ≤ k → w1.cell? ⟨w0.heap.size, k, none⟩ = none := by
    intro k hk
    rw [hx.cell (by simp), World.cell?_alloc_at _ _ _ _ rfl]
    exact Array.getElem?_eq_none (by simpa using hk)
  have cf : ∀ k, w1.frozen? ⟨w0.heap.size, k, none⟩ = false := by
    intro k
    rw [hx.frozen (by simp)]; exact World.frozen?_alloc_at _ _ _ _ rfl
  have X1 := Lib.hid (show Ext w w1 from (ext1 w _).trans (X0.mono (by simp)))
  rw [n0] at d0 d1 d2 d3
  have far : ∀ k, 4 ≤ k → w1.cell? ⟨w.heap.size, k, none⟩ = none ∧ w1.cell? ⟨w.heap.size + 1, k, none⟩ = none := fun k hk => ⟨farc k hk, n0 ▸ fard k hk⟩
  have y0 : w1.frozen? ⟨w.heap.size + 1, 0, none⟩ = false := n0 ▸ cf 0
  have y1 : w1.frozen? ⟨w.heap.size + 1, 1, none⟩ = false := n0 ▸ cf 1
  have y2 : w1.frozen? ⟨w.heap.size + 1, 2, none⟩ = false := n0 ▸ cf 2
  have y3 : w1.frozen? ⟨w.heap.size + 1, 3, none⟩ = false := n0 ▸ cf 3
  have hne : l ≠ [] → ∀ a, A' = some a → a.block ≠ w.heap.size ∧ a.block ≠ w.heap.size + 1 := by
    intro hn a ha
    obtain ⟨b, off, e, hi⟩ := hi1 hn
    have h0 : 0 < l.length := by cases l with | nil => exact absurd rfl hn | cons _ _ => simp
    obtain ⟨_, _, _, _, _, _, q6⟩ := hi 0 h0
    rw [e] at ha
    cases ha
    constructor
    · rintro rfl
      rw [(far _ (by omega)).1] at q6; cases q6
    · rintro rfl
      rw [(far _ (by omega)).2] at q6; cases q6
  have HNE := Lib.hid hne
  have I1 := Lib.hid hi1
  have hlt : w.heap.size + 1 < w1.heap.size := World.block_lt_of_cell? _ _ d0
  clear hx far hne hi1 cf h X0 farc fard n0 hw0 w0
  go_wp2_with fail
  (try simp only [Exit.inBlock, Exit.then])
  refine bodyPost_ret (v := .agg #[.slice A' l.length c, .int .i64 en, .int .i64 wd, .int .i64 nr]) ?_ rfl ⟨A', c, rfl, ?_, hc1, ?_⟩
  · rw [results_cell rfl]
    go_simp
  · refine InsSl.setCell (InsSl.setCell (InsSl.setCell (InsSl.setCell (InsSl.setCell I1.out ?_ _) ?_ _) ?_ _) ?_ _) ?_ _ <;> (intro hn a ha; first | exact (HNE.out hn a ha).1 | exact (HNE.out hn a ha).2)
  · refine Below.setCell (Below.setCell (Below.setCell (Below.setCell (Below.setCell X1.out ?_ _) ?_ _) ?_ _) ?_ _) ?_ _ <;> (simp <;> omega)
end Go.Proofs.YtcbfaobepmhidaaDoor
