/- A struct argument with a slice of instructions ahead of three ints, opened. -/
import Derived.Test.YtcbfaobepmhidaaDoorL3
namespace Go.Proofs.YtcbfaobepmhidaaDoor
open Go.Joins Go.RowKit Go.ChangeShapes Go.WideShapes Go.Deep

section
variable {H : Type} {enc : TypeId × Value → H} {w : World} {base : Nat} {spare : Nat → Bool} {held : Bool}
set_option maxRecDepth 100000 in
theorem open_ins_cell {v : Value} {y : DataW H × List MemPlace} {n : Nat} (h : DataW.trod enc Tryd.prog w base spare held n 22 [v] = some y) :
    ∃ (A : Option Addr) (cap : Nat) (l : List InsD), v = .slice A l.length cap ∧ InsSl w A l ∧ ((y.1 = .nil ∧ l = []) ∨ ∃ es sp, y.1 = .slice es sp ∧ es.length = l.length) := by
  have hv : ∃ a len cap, v = .slice a len cap := by
    rcases open_slice_fields Tryd.underlying22 Tryd.underlying42 (by kernel_rfl) (by kernel_rfl) h with ⟨hcs, _⟩ | ⟨a, len, cap, m, D, Pl, hcs, _⟩
    · exact ⟨_, _, _, by simpa using hcs⟩
    · exact ⟨_, _, _, by simpa using hcs⟩
  obtain ⟨a, len, cap, rfl⟩ := hv
  exact open_ins (p := y.2) ⟨a, len, cap, rfl⟩ ⟨n, by simpa [Value.cells] using h⟩

set_option maxRecDepth 100000 in
theorem open_prog {r : Reach} {b0 : Nat} {v : Value} {d : DataW H} {p : List MemPlace} (hv : Value.okWide Tryd.prog w r b0 49 v) (h : DataW.Trod enc Tryd.prog w base spare held 49 v d p) :
    ∃ (A : Option Addr) (cap : Nat) (l : List InsD) (en wd nr : Int), v = .agg #[.slice A l.length cap, .int .i64 en, .int .i64 wd, .int .i64 nr] ∧ InsSl w A l ∧
      ∃ (d0 : DataW H) (dr : List (DataW H)), d = .agg (d0 :: dr) ∧ ((d0 = .nil ∧ l = []) ∨ ∃ es sp, d0 = .slice es sp ∧ es.length = l.length) := by
  obtain ⟨v0, v1, v2, v3, y0, y1, y2, y3, n, rfl, hd, _, t0, t1, t2, t3⟩ := open_agg4 Tryd.underlying49 (by kernel_rfl) (by kernel_rfl) hv h
  obtain ⟨A, cap, l, rfl, hi, hl⟩ := open_ins_cell t0
  obtain ⟨x1, e1, _⟩ := DataW.trod_int Tryd.underlying3 t1
  obtain ⟨x2, e2, _⟩ := DataW.trod_int Tryd.underlying3 t2
  obtain ⟨x3, e3, _⟩ := DataW.trod_int Tryd.underlying3 t3
  simp only [List.cons.injEq, and_true] at e1 e2 e3
  subst e1 e2 e3
  exact ⟨A, cap, l, x1, x2, x3, rfl, hi, _, _, hd, hl⟩

set_option maxRecDepth 100000 in
theorem prog_sized {ts : List TypeId} {ds : List (DataW H)} (h : (DataW.weightsEach Tryd.prog ts ds).all (· ≤ reachBytes) = true) {j : Nat} {d0 : DataW H} {dr : List (DataW H)} {l : List InsD} (ht : ts[j]? = some 49) (hd : ds[j]? = some (.agg (d0 :: dr)))
    (hl : (d0 = .nil ∧ l = []) ∨ ∃ es sp, d0 = .slice es sp ∧ es.length = l.length) : l.length * 56 ≤ 140737488355328 := by
  rcases hl with ⟨_, rfl⟩ | ⟨es, sp, rfl, hl⟩
  · simp
  · have hb : Tryd.prog.bytesOf 42 = 56 := by kernel_rfl
    have hm := List.all_eq_true.1 h _ (DataW.weights_mem_each ht hd ((es.length + sp.length) * Tryd.prog.bytesOf 42) (by simp [DataW.weights, DataW.weightsEach, Tryd.underlying49, Tryd.underlying22]))
    rw [hb] at hm
    simp only [decide_eq_true_eq] at hm
    unfold reachBytes at hm
    rw [← hl]
    omega
end
end Go.Proofs.YtcbfaobepmhidaaDoor
