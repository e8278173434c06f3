/- Walk of distaffkeep.In over a failure with one name. -/
import Derived.Test.YtoncebfhkoabaaaDoorC5b
import Derived.Test.YtoncebfhkoabaaaDoorL1
import Derived.Deep.RegionHeld3
import Derived.Deep.RegionLawGrows
namespace Go.Proofs.YtoncebfhkoabaaaDoor
open Go.RowKit Go.Extern.Stop Go.Stop Go.Extern

theorem Tryd.strInfo : (Tryd.prog.info? 9).map (fun i => (i.zero, i.size, i.bytes)) = some (some (.string ByteArray.empty), 1, 16) := by kernel_rfl
theorem Tryd.intInfoD : (Tryd.prog.info? 3).map (fun i => (i.zero, i.size, i.bytes)) = some (some (.int .i64 0), 1, 8) := by kernel_rfl
theorem add_zero_ (p : Addr) : p.add 0 = p := by unfold Addr.add; simp
theorem one_cells {W : World} {p : Addr} {v : Value} (h : W.cell? p = some v) : ∀ j u, [v][j]? = some u → W.cell? (p.add j) = some u := by
  intro j u hj
  cases j with
  | zero => simp only [List.getElem?_cons_zero, Option.some.injEq] at hj; subst hj; rw [add_zero_]; exact h
  | succ j => simp at hj
/-- One value more behind one that stands alone in a row without spare room: a row of the call's own. -/
theorem step_app_one {P : Program} {ops : Array Oper} {o : Oper} {a : Act} {w : World} {K : Act → World → Prop} {Q : Exit → Act → World → Prop} {E : Prop}
    (hg : o.guard = none) (s x : Operand) (t : TypeId) (hop : o.op = Op.call { callee := Callee.builtin Builtin.append, args := #[s, x], argTypes := #[t, t] })
    (e : TypeId) (i : TypeInfo) (z : Value) (bytes : Nat) (h1 : P.underlying t = some (.slice e)) (h2 : P.info? e = some i) (h3 : i.zero = some z) (h4 : i.size = 1) (h5 : i.bytes = bytes) (h6 : z.cells.size = 1) (hb : bytes ≤ 1000)
    (p q : Addr) (c : Nat) (u u2 : Value) (hs : a.eval s = .slice (some p) 1 1) (hx : a.eval x = .slice (some q) 1 c) (hp : w.cell? p = some u) (hq : w.cell? q = some u2) (ho : u2.oneCell' = true)
    (hK : ∀ g c' w', Ext w w' → w'.cell? ⟨g, 0, none⟩ = some u → w'.cell? ⟨g, 1, none⟩ = some u2 → K (a.put o.dst (.slice (some ⟨g, 0, none⟩) 2 c')) w') :
    if Region.wanted o (yielded ops a.tmps) = true then Oper.wp P o a w K Q else E :=
  step_append_grows hg s x t hop e i z 1 bytes h1 h2 h3 h4 h5 h6 (by omega) (some p) 1 1 [u] hs (fun h => by cases h) rfl (fun b hb => by cases hb; exact one_cells hp) q 1 c [u2] hx rfl (one_cells hq)
    (fun v hv => by simp at hv; subst hv; exact ho) (by omega) (by unfold maxLen; omega) (by omega)
    (fun v' w' own gr => by
      obtain ⟨g, cap, rfl, _, _⟩ := own.form (by omega)
      have c0 := own.cells (g := g) rfl 0 u rfl
      have c1 := own.cells (g := g) rfl 1 u2 rfl
      exact hK g cap w' ((Below.refl _ _).grown gr (Nat.le_refl _) (fun k h => by cases h)) (by simpa [Addr.add] using c0) (by simpa [Addr.add] using c1))
end Go.Proofs.YtoncebfhkoabaaaDoor
