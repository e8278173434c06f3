/- code.Check at a code of one instruction: nil, or an error (out of its full contract). -/
import Derived.Test.YtoncebfhkoabaaaDoorC1b
namespace Go.Proofs.YtoncebfhkoabaaaDoor
open Go.RowKit

theorem insAt_one {w : World} {b : Nat} {x : InsD} (h0 : w.cell? ⟨b, 0, none⟩ = some (.int .i64 x.op)) (h1 : w.cell? ⟨b, 1, none⟩ = some (.int .i64 x.a)) (h2 : w.cell? ⟨b, 2, none⟩ = some (.int .i64 x.b)) (h3 : w.cell? ⟨b, 3, none⟩ = some (.int .i64 x.c)) (h4 : w.cell? ⟨b, 4, none⟩ = some (.int .u64 x.v)) (h5 : w.cell? ⟨b, 5, none⟩ = some (.int .i64 x.m)) (h6 : w.cell? ⟨b, 6, none⟩ = some (.int .i64 x.wh)) : InsAt w b 0 [x] := by
  intro i hi
  obtain rfl : i = 0 := by simp at hi; omega
  simpa using ⟨h0, h1, h2, h3, h4, h5, h6⟩
theorem InsAt.ext {w w' : World} {b off : Nat} {l : List InsD} (h : InsAt w b off l) (hx : Ext w w') : InsAt w' b off l := by
  intro i hi
  obtain ⟨c0, c1, c2, c3, c4, c5, c6⟩ := h i hi
  have lb := World.block_lt_of_cell? _ _ c0
  exact ⟨(hx.cell (p := ⟨b, off + i * 7, none⟩) lb).trans c0, (hx.cell (p := ⟨b, off + i * 7 + 1, none⟩) lb).trans c1, (hx.cell (p := ⟨b, off + i * 7 + 2, none⟩) lb).trans c2, (hx.cell (p := ⟨b, off + i * 7 + 3, none⟩) lb).trans c3, (hx.cell (p := ⟨b, off + i * 7 + 4, none⟩) lb).trans c4, (hx.cell (p := ⟨b, off + i * 7 + 5, none⟩) lb).trans c5, (hx.cell (p := ⟨b, off + i * 7 + 6, none⟩) lb).trans c6⟩
/-- What a check answers: nil, or an error. -/
def NilOr (w : World) (ok : Bool) (e : Ending) (w' : World) : Prop := ∃ v, e = .returned v ∧ (ok = true → v = .nilIface) ∧ (ok = false → ∃ c, v = .iface 88 (.pointer (some c))) ∧ Ext w w'
theorem check_one (b off cap : Nat) (x : InsD) (lib : Bool) (w : World) (hi : InsAt w b off [x]) :
    Calls Tryd.prog 47 #[.slice (some ⟨b, off, none⟩) 1 cap, .bool lib] w (NilOr w (mayF x 1 lib)) := by
  refine (check_any b off cap [x] lib (by simp) w hi).mono ?_
  rintro e w' ⟨v, rfl, hp, hx⟩
  have e0 : checkF [x] (fun y => mayF y ([x].length : Nat) lib) = if mayF x 1 lib then none else some ([(codeS, ((0 : Nat) : Int))], 5) := by
    show (if 2048 < 1 then _ else ((if mayF x 1 lib then none else some 0 : Option Nat).map _)) = _
    cases mayF x 1 lib <;> rfl
  rw [e0] at hp
  refine ⟨v, rfl, fun h => ?_, fun h => ?_, hx⟩
  · rw [if_pos h] at hp; exact hp
  · rw [if_neg (by simp [h])] at hp
    obtain ⟨c, hv, _⟩ := hp
    exact ⟨_, hv⟩
end Go.Proofs.YtoncebfhkoabaaaDoor
