/- A frame in memory; what is left alone beside some blocks: plain words on worlds. -/
import Derived.Test.YtoncebfhkoabaaaDoorA1
import Derived.Lib.Hide
namespace Go.Proofs.YtoncebfhkoabaaaDoor
open Go.RowKit

/-- w' is w with new blocks, and with writes to blocks of S alone. -/
structure Upto (S : Nat → Prop) (w w' : World) : Prop where
  os : w'.os = w.os
  tape : w'.tape = w.tape
  output : w'.output = w.output
  size : w.heap.size ≤ w'.heap.size
  block : ∀ k, k < w.heap.size → ¬ S k → w'.heap[k]? = w.heap[k]?
section
variable {S T : Nat → Prop} {w w1 w' : World}
theorem Upto.refl (S : Nat → Prop) (w : World) : Upto S w w := ⟨rfl, rfl, rfl, Nat.le_refl _, fun _ _ _ => rfl⟩
theorem Upto.trans (h : Upto S w w1) (k : Upto S w1 w') : Upto S w w' :=
  ⟨k.os.trans h.os, k.tape.trans h.tape, k.output.trans h.output, Nat.le_trans h.size k.size, fun i hi hs => (k.block i (Nat.lt_of_lt_of_le hi h.size) hs).trans (h.block i hi hs)⟩
theorem Upto.mono (h : Upto S w w') (hs : ∀ k, k < w.heap.size → S k → T k) : Upto T w w' := ⟨h.os, h.tape, h.output, h.size, fun k hk ht => h.block k hk fun h => ht (hs k hk h)⟩
theorem Upto.of_ext (h : Ext w w') : Upto S w w' := ⟨h.os, h.tape, h.output, h.size, fun k hk _ => h.block k hk⟩
theorem Upto.ext (h : Upto S w w') (hs : ∀ k, S k → w.heap.size ≤ k) : Ext w w' := ⟨h.os, h.tape, h.output, h.size, fun k hk => h.block k hk fun h => by have := hs k h; omega⟩
theorem Upto.below {B : Nat} (h : Upto S w w') (hB : B ≤ w.heap.size) (hs : ∀ k, S k → B ≤ k) : Below B w w' := ⟨h.os, h.tape, h.output, h.size, fun k hk => h.block k (by omega) fun h => by have := hs k h; omega⟩
theorem Upto.drew (h : Upto S w w') : Upto S w w'.drew := ⟨h.os, h.tape, h.output, h.size, h.block⟩
theorem Upto.drewN (h : Upto S w w') (n : Nat) : Upto S w (w'.drewN n) := ⟨h.os, h.tape, h.output, h.size, h.block⟩
theorem Upto.alloc (h : Upto S w w') (o : Obj) : Upto S w (w'.alloc o) :=
  h.trans (Upto.of_ext (ext1 w' o))
theorem Upto.setCell (h : Upto S w w') {p : Addr} (hp : S p.block) (u : Value) : Upto S w (w'.setCell p u) :=
  ⟨h.os, h.tape, h.output, by simpa using h.size, fun k hk hs => (Below.heap_setCell w' p u k (fun e => hs (by rw [e]; exact hp))).trans (h.block k hk hs)⟩
theorem Upto.setB {b : Nat} (h : Upto (· = b) w w') (o : Nat) (u : Value) : Upto (· = b) w (w'.setCell ⟨b, o, none⟩ u) := h.setCell (p := ⟨b, o, none⟩) rfl u
theorem Upto.cell (h : Upto S w w') {p : Addr} (hp : p.block < w.heap.size) (hs : ¬ S p.block) : w'.cell? p = w.cell? p := World.cell?_of_block (w := w) (h.block p.block hp hs)
theorem Upto.cell' (h : Upto S w w') {p : Addr} {v : Value} (hc : w.cell? p = some v) (hs : ¬ S p.block) : w'.cell? p = some v := (h.cell (World.block_lt_of_cell? _ _ hc) hs).trans hc
theorem Upto.frozen (h : Upto S w w') {p : Addr} (hp : p.block < w.heap.size) (hs : ¬ S p.block) : w'.frozen? p = w.frozen? p := World.frozen?_of_block (w := w) (h.block p.block hp hs)
end

/-- A frame lies in block b from cell o on. -/
structure FrAt (w : World) (b o : Nat) (pc : Int) (r : List Int) (A : Option Addr) (n cap : Nat) : Prop where
  pc : w.cell? ⟨b, o, none⟩ = some (.int .i64 pc)
  len : r.length = 32
  r : ∀ i, i < 32 → w.cell? ⟨b, o + 1 + i, none⟩ = some (.int .u64 (r.getD i 0))
  back : w.cell? ⟨b, o + 33, none⟩ = some (.slice A n cap)
  fz : ∀ i, i < 34 → w.frozen? ⟨b, o + i, none⟩ = false
section
variable {w w' : World} {b o : Nat} {pc : Int} {r : List Int} {A : Option Addr} {n cap : Nat}
theorem FrAt.lt (h : FrAt w b o pc r A n cap) : b < w.heap.size := World.block_lt_of_cell? _ _ h.pc
theorem FrAt.fz0 (h : FrAt w b o pc r A n cap) : w.frozen? ⟨b, o, none⟩ = false := h.fz 0 (by omega)
theorem FrAt.upto {S : Nat → Prop} (h : FrAt w b o pc r A n cap) (hu : Upto S w w') (hs : ¬ S b) : FrAt w' b o pc r A n cap :=
  ⟨(hu.cell h.lt hs).trans h.pc, h.len, fun i hi => (hu.cell (p := ⟨b, _, none⟩) h.lt hs).trans (h.r i hi), (hu.cell (p := ⟨b, _, none⟩) h.lt hs).trans h.back, fun i hi => (hu.frozen (p := ⟨b, _, none⟩) h.lt hs).trans (h.fz i hi)⟩
theorem FrAt.ext (h : FrAt w b o pc r A n cap) (hx : Ext w w') : FrAt w' b o pc r A n cap := h.upto (S := fun _ => False) (Upto.of_ext hx) (fun h => h)
theorem cell_at {w : World} {b i j : Nat} {u : Value} (h : w.cell? ⟨b, i, none⟩ = some u) (e : i = j) : w.cell? ⟨b, j, none⟩ = some u := e ▸ h
theorem FrAt.setPc (h : FrAt w b o pc r A n cap) (v : Int) : FrAt (w.setCell ⟨b, o, none⟩ (.int .i64 v)) b o v r A n cap :=
  ⟨World.cell?_setCell_same _ _ _ h.pc, h.len, fun i hi => (World.cell?_setCell_other _ _ _ _ (by simp <;> omega)).trans (h.r i hi), (World.cell?_setCell_other _ _ _ _ (by simp)).trans h.back, fun i hi => by rw [World.frozen?_setCell]; exact h.fz i hi⟩
theorem FrAt.setBack (h : FrAt w b o pc r A n cap) (A' : Option Addr) (n' cap' : Nat) : FrAt (w.setCell ⟨b, o + 33, none⟩ (.slice A' n' cap')) b o pc r A' n' cap' :=
  ⟨(World.cell?_setCell_other _ _ _ _ (by simp)).trans h.pc, h.len, fun i hi => (World.cell?_setCell_other _ _ _ _ (by simp <;> omega)).trans (h.r i hi), World.cell?_setCell_same _ _ _ h.back, fun i hi => by rw [World.frozen?_setCell]; exact h.fz i hi⟩
theorem FrAt.setR (h : FrAt w b o pc r A n cap) (k : Nat) (hk : k < 32) (v : Int) : FrAt (w.setCell ⟨b, o + 1 + k, none⟩ (.int .u64 v)) b o pc (r.set k v) A n cap := by
  refine ⟨(World.cell?_setCell_other _ _ _ _ (by simp <;> omega)).trans h.pc, by simpa using h.len, fun i hi => ?_, (World.cell?_setCell_other _ _ _ _ (by simp <;> omega)).trans h.back, fun i hi => by rw [World.frozen?_setCell]; exact h.fz i hi⟩
  have hl := h.len
  by_cases e : i = k
  · subst e
    rw [World.cell?_setCell_same _ _ _ (h.r i hi)]
    simp [List.getD_eq_getElem?_getD, hl, hi]
  · rw [World.cell?_setCell_other _ _ _ _ (by simp <;> omega), h.r i hi]
    simp [List.getD_eq_getElem?_getD, Ne.symm e]
end

/-- The places of 'Back'. -/
def BackIs (w : World) (A : Option Addr) (bk : List Int) : Prop := bk ≠ [] → ∃ b o, A = some ⟨b, o, none⟩ ∧ ∀ i, i < bk.length → w.cell? ⟨b, o + i, none⟩ = some (.int .i64 (bk.getD i 0))
def readF (r : List Int) (n : Int) : Int := if 0 ≤ n ∧ n < 32 then r.getD n.toNat 0 else 0
end Go.Proofs.YtoncebfhkoabaaaDoor
