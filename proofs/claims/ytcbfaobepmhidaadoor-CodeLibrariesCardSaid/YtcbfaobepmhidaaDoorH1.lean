/- Rows of a library's calls in memory: words for slices of six cells each. -/
import Derived.Test.YtcbfaobepmhidaaDoorD7
namespace Go.Proofs.YtcbfaobepmhidaaDoor
open Go.RowKit Go.Extern.Stop Go.Stop Go.Extern

/-- A row of a library's calls. -/
structure DoorD where
  key : Int
  pl : Int
  k0 : Int
  k1 : Int
  k2 : Int
  k3 : Int

abbrev doorV (d : DoorD) : Value := .agg #[.int .i64 d.key, .int .i64 d.pl, .int .i64 d.k0, .int .i64 d.k1, .int .i64 d.k2, .int .i64 d.k3]
def DoorD.row (d : DoorD) : List Value := [.int .i64 d.key, .int .i64 d.pl, .int .i64 d.k0, .int .i64 d.k1, .int .i64 d.k2, .int .i64 d.k3]
def doorRow (l : List DoorD) : List Value := l.flatMap DoorD.row
/-- The rows l lie in block b from cell 'off' on. -/
def DoorsAt (w : World) (b off : Nat) (l : List DoorD) : Prop :=
  ∀ i (h : i < l.length), w.cell? ⟨b, off + i * 6, none⟩ = some (.int .i64 l[i].key) ∧ w.cell? ⟨b, off + i * 6 + 1, none⟩ = some (.int .i64 l[i].pl) ∧ w.cell? ⟨b, off + i * 6 + 2, none⟩ = some (.int .i64 l[i].k0) ∧ w.cell? ⟨b, off + i * 6 + 3, none⟩ = some (.int .i64 l[i].k1) ∧ w.cell? ⟨b, off + i * 6 + 4, none⟩ = some (.int .i64 l[i].k2) ∧ w.cell? ⟨b, off + i * 6 + 5, none⟩ = some (.int .i64 l[i].k3)
def DoorsSl (w : World) (A : Option Addr) (l : List DoorD) : Prop := l ≠ [] → ∃ b off, A = some ⟨b, off, none⟩ ∧ DoorsAt w b off l

theorem DoorsAt.keep {w w' : World} {b off : Nat} {l : List DoorD} (h : DoorsAt w b off l) (hk : ∀ o, (∃ v, w.cell? ⟨b, o, none⟩ = some v) → w'.cell? ⟨b, o, none⟩ = w.cell? ⟨b, o, none⟩) : DoorsAt w' b off l := by
  intro i hi
  obtain ⟨c0, c1, c2, c3, c4, c5⟩ := h i hi
  exact ⟨(hk _ ⟨_, c0⟩).trans c0, (hk _ ⟨_, c1⟩).trans c1, (hk _ ⟨_, c2⟩).trans c2, (hk _ ⟨_, c3⟩).trans c3, (hk _ ⟨_, c4⟩).trans c4, (hk _ ⟨_, c5⟩).trans c5⟩
theorem DoorsAt.ext {w w' : World} {b off : Nat} {l : List DoorD} (h : DoorsAt w b off l) (hx : Ext w w') : DoorsAt w' b off l :=
  h.keep fun o ⟨_, hv⟩ => hx.cell (p := ⟨b, o, none⟩) (World.block_lt_of_cell? _ _ hv)
theorem DoorsSl.ext {w w' : World} {A : Option Addr} {l : List DoorD} (h : DoorsSl w A l) (hx : Ext w w') : DoorsSl w' A l := fun hn => by
  obtain ⟨b, off, e, hi⟩ := h hn
  exact ⟨b, off, e, hi.ext hx⟩
theorem DoorsSl.setCell {w : World} {A : Option Addr} {l : List DoorD} (h : DoorsSl w A l) {p : Addr} (hp : l ≠ [] → ∀ a, A = some a → a.block ≠ p.block) (u : Value) : DoorsSl (w.setCell p u) A l := by
  intro hn
  obtain ⟨b, off, e, hi⟩ := h hn
  have hb : b ≠ p.block := hp hn _ e
  exact ⟨b, off, e, hi.keep fun o _ => World.cell?_setCell_far _ _ _ _ (fun e => hb e.symm)⟩
theorem DoorsSl.lt {w : World} {A : Option Addr} {l : List DoorD} (h : DoorsSl w A l) : l ≠ [] → ∀ a, A = some a → a.block < w.heap.size := by
  intro hn a ha
  obtain ⟨b, off, e, hi⟩ := h hn
  have h0 : 0 < l.length := by cases l with | nil => exact absurd rfl hn | cons _ _ => simp
  rw [e] at ha
  cases ha
  exact World.block_lt_of_cell? _ _ (hi 0 h0).1
theorem InsSl.lt {w : World} {A : Option Addr} {l : List InsD} (h : InsSl w A l) : l ≠ [] → ∀ a, A = some a → a.block < w.heap.size := by
  intro hn a ha
  obtain ⟨b, off, e, hi⟩ := h hn
  have h0 : 0 < l.length := by cases l with | nil => exact absurd rfl hn | cons _ _ => simp
  rw [e] at ha
  cases ha
  exact World.block_lt_of_cell? _ _ (hi 0 h0).1

theorem doorRow_length (l : List DoorD) : (doorRow l).length = l.length * 6 := by
  induction l with
  | nil => rfl
  | cons x r ih => simp only [doorRow, List.flatMap_cons, List.length_append, List.length_cons] at *; rw [ih]; simp [DoorD.row]; omega
theorem doorRow_at (l : List DoorD) (i j : Nat) (hi : i < l.length) (hj : j < 6) : (doorRow l)[i * 6 + j]? = (l[i].row)[j]? := by
  induction l generalizing i with
  | nil => simp at hi
  | cons x r ih =>
    have hx : x.row.length = 6 := rfl
    simp only [doorRow, List.flatMap_cons]
    cases i with
    | zero => rw [List.getElem?_append_left (by omega)]; simp
    | succ i =>
      rw [List.getElem?_append_right (by omega), hx, show (i + 1) * 6 + j - 6 = i * 6 + j by omega]
      simp only [List.length_cons] at hi
      rw [show (List.flatMap DoorD.row r) = doorRow r from rfl, ih i (by omega)]
      simp
theorem doorsAt_of {w : World} {b off : Nat} {l : List DoorD} (h : ∀ j u, (doorRow l)[j]? = some u → w.cell? ⟨b, off + j, none⟩ = some u) : DoorsAt w b off l := by
  intro i hi
  refine ⟨?_, ?_, ?_, ?_, ?_, ?_⟩
  · exact h (i * 6 + 0) _ (by rw [doorRow_at l i 0 hi (by omega)]; rfl)
  · exact h (i * 6 + 1) _ (by rw [doorRow_at l i 1 hi (by omega)]; rfl)
  · exact h (i * 6 + 2) _ (by rw [doorRow_at l i 2 hi (by omega)]; rfl)
  · exact h (i * 6 + 3) _ (by rw [doorRow_at l i 3 hi (by omega)]; rfl)
  · exact h (i * 6 + 4) _ (by rw [doorRow_at l i 4 hi (by omega)]; rfl)
  · exact h (i * 6 + 5) _ (by rw [doorRow_at l i 5 hi (by omega)]; rfl)
theorem doorsAt_cell {w : World} {b off : Nat} {l : List DoorD} (h : DoorsAt w b off l) (j : Nat) (u : Value) (hj : (doorRow l)[j]? = some u) : w.cell? ⟨b, off + j, none⟩ = some u := by
  have hlt : j < l.length * 6 := by
    rw [← doorRow_length]
    exact (List.getElem?_eq_some_iff.1 hj).1
  have hi : j / 6 < l.length := by omega
  obtain ⟨c0, c1, c2, c3, c4, c5⟩ := h (j / 6) hi
  have hk : j % 6 < 6 := Nat.mod_lt _ (by omega)
  have e : j = j / 6 * 6 + j % 6 := by omega
  rw [e, doorRow_at l _ _ hi hk] at hj
  rw [e]
  generalize j % 6 = k at *
  match k, hk with
  | 0, _ => rw [← hj]; exact c0
  | 1, _ => rw [← hj]; exact c1
  | 2, _ => rw [← hj]; exact c2
  | 3, _ => rw [← hj]; exact c3
  | 4, _ => rw [← hj]; exact c4
  | 5, _ => rw [← hj]; exact c5
theorem doorRow_one (l : List DoorD) : ∀ u ∈ doorRow l, u.oneCell' = true := by
  intro u hu
  obtain ⟨x, _, hx⟩ := List.mem_flatMap.1 hu
  simp only [DoorD.row, List.mem_cons, List.not_mem_nil, or_false] at hx
  rcases hx with rfl | rfl | rfl | rfl | rfl | rfl <;> rfl
theorem doorReads_of {w : World} {A : Option Addr} {l : List DoorD} (h : DoorsSl w A l) : Reads w w.heap.size 6 A l.length (doorRow l) := by
  refine ⟨doorRow_length l, fun hn => ?_⟩
  obtain ⟨b, off, rfl, hi⟩ := h (by intro e; subst e; simp at hn)
  refine ⟨_, rfl, World.block_lt_of_cell? _ _ (hi 0 hn).1, fun j u hj => ?_⟩
  have := doorsAt_cell hi j u hj
  unfold Addr.add
  by_cases h0 : j = 0
  · subst h0; simpa using this
  · rw [if_neg h0]; exact this
theorem doorsSl_own {w : World} {base c : Nat} {A : Option Addr} {l : List DoorD} (h : w.ownsRow base 77 6 (.slice A l.length c) l.length (doorRow l)) : DoorsSl w A l := by
  intro hn
  have hr := Reads.of_own h
  have h0 : 0 < l.length := by cases l with | nil => exact absurd rfl hn | cons _ _ => simp
  obtain ⟨g, cap, hv, _, hlt⟩ := h.form h0
  have hA : A = some ⟨g, 0, none⟩ := by injection hv
  subst hA
  refine ⟨g, 0, rfl, doorsAt_of fun j u hj => ?_⟩
  have hx := h.cells (g := g) rfl j u hj
  unfold Addr.add at hx
  by_cases hj0 : j = 0
  · subst hj0; simpa using hx
  · rw [if_neg hj0] at hx; exact hx
theorem Tryd.doorInfo : (Tryd.prog.info? 77).map (fun i => (i.zero, i.size, i.bytes)) = some (some (.agg #[.int .i64 0, .int .i64 0, .int .i64 0, .int .i64 0, .int .i64 0, .int .i64 0]), 6, 48) := by kernel_rfl
end Go.Proofs.YtcbfaobepmhidaaDoor
