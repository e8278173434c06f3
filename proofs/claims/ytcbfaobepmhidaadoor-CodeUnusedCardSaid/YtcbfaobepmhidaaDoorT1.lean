/- Three copies of one instruction in three blocks, and what a store does to them. -/
import Derived.Test.YtcbfaobepmhidaaDoorC4
import Derived.Deep.RegionHeld
namespace Go.Proofs.YtcbfaobepmhidaaDoor
open Go.RowKit Go.WideShapes Go.ChangeShapes

def Cel (w : World) (b : Nat) (x : InsD) : Prop := w.cell? ⟨b, 0, none⟩ = some (.int .i64 x.op) ∧ w.cell? ⟨b, 1, none⟩ = some (.int .i64 x.a) ∧ w.cell? ⟨b, 2, none⟩ = some (.int .i64 x.b) ∧ w.cell? ⟨b, 3, none⟩ = some (.int .i64 x.c) ∧ w.cell? ⟨b, 4, none⟩ = some (.int .u64 x.v) ∧ w.cell? ⟨b, 5, none⟩ = some (.int .i64 x.m) ∧ w.cell? ⟨b, 6, none⟩ = some (.int .i64 x.wh)
theorem Cel.far {w : World} {b : Nat} {x : InsD} (h : Cel w b x) (p : Addr) (v : Value) (hp : p.block ≠ b) : Cel (w.setCell p v) b x := by
  obtain ⟨h0, h1, h2, h3, h4, h5, h6⟩ := h
  refine ⟨?_, ?_, ?_, ?_, ?_, ?_, ?_⟩ <;> (rw [World.cell?_setCell_far _ _ _ _ hp]; assumption)
theorem Cel.ext {w w' : World} {b : Nat} {x : InsD} (h : Cel w b x) (hx : Ext w w') (hb : b < w.heap.size) : Cel w' b x := by
  obtain ⟨h0, h1, h2, h3, h4, h5, h6⟩ := h
  refine ⟨?_, ?_, ?_, ?_, ?_, ?_, ?_⟩ <;> (rw [hx.cell hb]; assumption)
theorem Cel.drew {w : World} {b : Nat} {x : InsD} (h : Cel w b x) : Cel w.drew b x := h
theorem Cel.past {w : World} {b : Nat} {x : InsD} (h : Cel w b x) (o : Obj) (hb : b < w.heap.size) : Cel (w.alloc o) b x := by
  obtain ⟨h0, h1, h2, h3, h4, h5, h6⟩ := h
  refine ⟨?_, ?_, ?_, ?_, ?_, ?_, ?_⟩ <;> (rw [World.cell?_alloc_lt _ _ _ hb]; assumption)
theorem Cel.setA {w : World} {k : Nat} {x : InsD} (h : Cel w k x) (v : Int) : Cel (w.setCell ⟨k, 1, none⟩ (.int .i64 v)) k {x with a := v} := by
  obtain ⟨h0, h1, h2, h3, h4, h5, h6⟩ := h
  refine ⟨?_, ?_, ?_, ?_, ?_, ?_, ?_⟩
  all_goals first
    | exact World.cell?_setCell_same _ _ _ h1
    | exact (World.cell?_setCell_other _ _ _ _ (by simp)).trans (by assumption)
theorem Cel.setB {w : World} {k : Nat} {x : InsD} (h : Cel w k x) (v : Int) : Cel (w.setCell ⟨k, 2, none⟩ (.int .i64 v)) k {x with b := v} := by
  obtain ⟨h0, h1, h2, h3, h4, h5, h6⟩ := h
  refine ⟨?_, ?_, ?_, ?_, ?_, ?_, ?_⟩
  all_goals first
    | exact World.cell?_setCell_same _ _ _ h2
    | exact (World.cell?_setCell_other _ _ _ _ (by simp)).trans (by assumption)
theorem Cel.setC {w : World} {k : Nat} {x : InsD} (h : Cel w k x) (v : Int) : Cel (w.setCell ⟨k, 3, none⟩ (.int .i64 v)) k {x with c := v} := by
  obtain ⟨h0, h1, h2, h3, h4, h5, h6⟩ := h
  refine ⟨?_, ?_, ?_, ?_, ?_, ?_, ?_⟩
  all_goals first
    | exact World.cell?_setCell_same _ _ _ h3
    | exact (World.cell?_setCell_other _ _ _ _ (by simp)).trans (by assumption)

structure Tri (w : World) (B a b c : Nat) (y z u : InsD) : Prop where
  ab : a ≠ b
  ac : a ≠ c
  bc : b ≠ c
  a0 : B ≤ a
  b0 : B ≤ b
  c0 : B ≤ c
  al : a < w.heap.size
  bl : b < w.heap.size
  cl : c < w.heap.size
  y : Cel w a y
  z : Cel w b z
  u : Cel w c u
  fa : ∀ i, w.frozen? ⟨a, i, none⟩ = false
  fb : ∀ i, w.frozen? ⟨b, i, none⟩ = false
  fc : ∀ i, w.frozen? ⟨c, i, none⟩ = false
section
variable {w w' : World} {B a b c : Nat} {y z u : InsD}
theorem Tri.setA (h : Tri w B a b c y z u) (v : Int) : Tri (w.setCell ⟨a, 1, none⟩ (.int .i64 v)) B a b c {y with a := v} z u :=
  ⟨h.ab, h.ac, h.bc, h.a0, h.b0, h.c0, by simpa using h.al, by simpa using h.bl, by simpa using h.cl, h.y.setA v, h.z.far _ _ h.ab, h.u.far _ _ h.ac, by simpa using h.fa, by simpa using h.fb, by simpa using h.fc⟩
theorem Tri.setB (h : Tri w B a b c y z u) (v : Int) : Tri (w.setCell ⟨b, 2, none⟩ (.int .i64 v)) B a b c y {z with b := v} u :=
  ⟨h.ab, h.ac, h.bc, h.a0, h.b0, h.c0, by simpa using h.al, by simpa using h.bl, by simpa using h.cl, h.y.far _ _ h.ab.symm, h.z.setB v, h.u.far _ _ h.bc, by simpa using h.fa, by simpa using h.fb, by simpa using h.fc⟩
theorem Tri.setC (h : Tri w B a b c y z u) (v : Int) : Tri (w.setCell ⟨c, 3, none⟩ (.int .i64 v)) B a b c y z {u with c := v} :=
  ⟨h.ab, h.ac, h.bc, h.a0, h.b0, h.c0, by simpa using h.al, by simpa using h.bl, by simpa using h.cl, h.y.far _ _ h.ac.symm, h.z.far _ _ h.bc.symm, h.u.setC v, by simpa using h.fa, by simpa using h.fb, by simpa using h.fc⟩
theorem Tri.ext (h : Tri w B a b c y z u) (hx : Ext w w') : Tri w' B a b c y z u :=
  ⟨h.ab, h.ac, h.bc, h.a0, h.b0, h.c0, Nat.lt_of_lt_of_le h.al hx.size, Nat.lt_of_lt_of_le h.bl hx.size, Nat.lt_of_lt_of_le h.cl hx.size, h.y.ext hx h.al, h.z.ext hx h.bl, h.u.ext hx h.cl,
   fun i => (hx.frozen h.al).trans (h.fa i), fun i => (hx.frozen h.bl).trans (h.fb i), fun i => (hx.frozen h.cl).trans (h.fc i)⟩
end
def insObj (x : InsD) : Obj := .cells #[.int .i64 x.op, .int .i64 x.a, .int .i64 x.b, .int .i64 x.c, .int .u64 x.v, .int .i64 x.m, .int .i64 x.wh] 42
theorem Cel.new (w : World) (x : InsD) : Cel (w.alloc (insObj x)) w.heap.size x := by
  refine ⟨?_, ?_, ?_, ?_, ?_, ?_, ?_⟩ <;> (unfold insObj; rw [World.cell?_alloc_new]; rfl)
theorem frz_new (w : World) (x : InsD) (i : Nat) : (w.alloc (insObj x)).frozen? ⟨w.heap.size, i, none⟩ = false := by
  unfold insObj; exact World.frozen?_alloc_new _ _ _ _
theorem frz_past {w : World} {b : Nat} (h : ∀ i, w.frozen? ⟨b, i, none⟩ = false) (o : Obj) (hb : b < w.heap.size) (i : Nat) : (w.alloc o).frozen? ⟨b, i, none⟩ = false :=
  (World.frozen?_alloc_old _ _ _ (Nat.ne_of_lt hb)).trans (h i)
def three (w : World) (x : InsD) : World := (((w.alloc (insObj x)).alloc (insObj x)).alloc (insObj x)).drew
theorem three_ext (w : World) (x : InsD) : Ext w (three w x) :=
  (((Below.refl _ w).alloc (Nat.le_refl _) _).alloc (by simp) _ |>.alloc (by simp; omega) _).drew
theorem three_size (w : World) (x : InsD) : (three w x).heap.size = w.heap.size + 1 + 1 + 1 := by
  unfold three
  show (World.alloc _ _).heap.size = _
  simp
theorem three_at (w : World) (x : InsD) (k : Nat) (hk : k < 3) : Cel (three w x) (w.heap.size + k) x ∧ ∀ i, (three w x).frozen? ⟨w.heap.size + k, i, none⟩ = false := by
  have s1 : (w.alloc (insObj x)).heap.size = w.heap.size + 1 := by simp
  have s2 : ((w.alloc (insObj x)).alloc (insObj x)).heap.size = w.heap.size + 2 := by simp
  have : k = 0 ∨ k = 1 ∨ k = 2 := by omega
  rcases this with rfl | rfl | rfl
  · exact ⟨((Cel.new w x).past _ (by simp)).past _ (by simp; omega), fun i => frz_past (frz_past (frz_new w x) _ (by simp)) _ (by simp; omega) i⟩
  · have h := Cel.new (w.alloc (insObj x)) x
    have f := frz_new (w.alloc (insObj x)) x
    rw [s1] at h f
    exact ⟨h.past _ (by simp), fun i => frz_past f _ (by simp) i⟩
  · have h := Cel.new ((w.alloc (insObj x)).alloc (insObj x)) x
    have f := frz_new ((w.alloc (insObj x)).alloc (insObj x)) x
    rw [s2] at h f
    exact ⟨h, f⟩
theorem three_tri (w : World) (x : InsD) {B i j k : Nat} (hB : B ≤ w.heap.size) (hi : i < 3) (hj : j < 3) (hk : k < 3) (hij : i ≠ j) (hik : i ≠ k) (hjk : j ≠ k) :
    Tri (three w x) B (w.heap.size + i) (w.heap.size + j) (w.heap.size + k) x x x :=
  have hs := three_size w x
  ⟨by omega, by omega, by omega, by omega, by omega, by omega, by omega, by omega, by omega, (three_at w x i hi).1, (three_at w x j hj).1, (three_at w x k hk).1, (three_at w x i hi).2, (three_at w x j hj).2, (three_at w x k hk).2⟩
end Go.Proofs.YtcbfaobepmhidaaDoor
