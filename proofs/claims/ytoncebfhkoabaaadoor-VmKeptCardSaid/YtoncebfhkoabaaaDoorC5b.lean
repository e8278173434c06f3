/- distaffkeep.Same where the program's answer and the document's are one. -/
import Derived.Test.YtoncebfhkoabaaaDoorC1b
namespace Go.Proofs.YtoncebfhkoabaaaDoor
open Go.RowKit Go.Extern.Stop Go.Stop Go.Extern

/-- errors.errorType holds what start-up lays. -/
def Gl (w : World) : Prop := w.cell? ⟨0, 0, none⟩ = some (.iface 127 (.agg #[.pointer (some ⟨1, 37, none⟩)]))
theorem Gl.ext {w w' : World} (h : Gl w) (hx : Ext w w') : Gl w' := (hx.cell (World.block_lt_of_cell? _ _ h)).trans h

theorem FailAt.ext {w w' : World} {b : Nat} {ls : List (ByteArray × Int)} {k : Int} (h : FailAt w b ls k) (hx : Ext w w') : FailAt w' b ls k := by
  obtain ⟨bl, bp, cl, cp, h0, h1, h2, h3, h4⟩ := h
  have lb := World.block_lt_of_cell? _ _ h0
  exact ⟨bl, bp, cl, cp, (hx.cell (p := ⟨b, 0, none⟩) lb).trans h0, (hx.cell (p := ⟨b, 1, none⟩) lb).trans h1, (hx.cell (p := ⟨b, 2, none⟩) lb).trans h2, fun i hi => (hx.cell (p := ⟨bl, i, none⟩) (World.block_lt_of_cell? _ _ (h3 i hi))).trans (h3 i hi), fun i hi => (hx.cell (p := ⟨bp, i, none⟩) (World.block_lt_of_cell? _ _ (h4 i hi))).trans (h4 i hi)⟩

abbrev Ans : Type := Option (List (ByteArray × Int) × Int)
def Ans.good (r : Ans) : Prop := ∀ ls k, r = some (ls, k) → ls ≠ [] ∧ ls.length ≤ 1000 ∧ 1 ≤ k ∧ k ≤ 10
theorem ErrPost.ext {w w' : World} {v : Value} {r : Ans} (h : ErrPost w v r) (hx : Ext w w') : ErrPost w' v r := by
  cases r with
  | none => exact h
  | some p =>
    obtain ⟨ls, k⟩ := p
    obtain ⟨c, e, hc⟩ := h
    exact ⟨c, e, Below.chain hx hc⟩
theorem FailPost.ext {w w' : World} {v : Value} {r : Ans} (h : FailPost w v r) (hx : Ext w w') : FailPost w' v r := by
  cases r with
  | none => exact h
  | some p =>
    obtain ⟨ls, k⟩ := p
    obtain ⟨c, e, hc⟩ := h
    exact ⟨c, e, FailAt.ext hc hx⟩
theorem ErrPost.nil_or {w : World} {v : Value} {r : Ans} (h : ErrPost w v r) : v = .nilIface ∨ ∃ x, v = .iface 88 x := by
  cases r with
  | none => exact .inl h
  | some p =>
    obtain ⟨c, e, hc⟩ := h
    exact .inr ⟨_, e⟩
theorem ErrPost.nil_iff {w : World} {v : Value} {r : Ans} (h : ErrPost w v r) : v = .nilIface ↔ r = none := by
  cases r with
  | none => exact ⟨fun _ => rfl, fun _ => h⟩
  | some p =>
    obtain ⟨c, e, hc⟩ := h
    subst e
    exact ⟨(fun h => by cases h), (fun h => by cases h)⟩

theorem same_match (w : World) (v f : Value) (r : Ans) (hv : ErrPost w v r) (hf : FailPost w f r) (hr : Ans.good r) (hg : Gl w) :
    Calls Tryd.prog 12 #[v, f] w fun e w' => e = .returned (.bool true) ∧ Ext w w' := by
  cases r with
  | none =>
    obtain rfl : v = .nilIface := hv
    obtain rfl : f = .pointer none := hf
    exact (same_nil_nil w).mono fun e w' ⟨he, hw⟩ => ⟨he, hw ▸ Below.refl _ _⟩
  | some p =>
    obtain ⟨ls, k⟩ := p
    obtain ⟨c, rfl, hc⟩ := hv
    obtain ⟨d, rfl, hd⟩ := hf
    obtain ⟨h1, h2, h3, h4⟩ := hr ls k rfl
    cases ls with
    | nil => exact absurd rfl h1
    | cons p ls => exact same_yes w d 88 _ p ls k h3 h4 hc hd hg h2

end Go.Proofs.YtoncebfhkoabaaaDoor
