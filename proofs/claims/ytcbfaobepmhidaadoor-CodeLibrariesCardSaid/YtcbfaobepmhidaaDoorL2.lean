/- An argument that is a slice of instructions, opened to its cells. -/
import Derived.Test.YtcbfaobepmhidaaDoorC4
import Derived.Deep.Slices
import Derived.Deep.Fields
import Derived.ChangeSame
import Derived.SizedLaws
import Derived.ProofKit
namespace Go.Proofs.YtcbfaobepmhidaaDoor
open Go.RowKit Go.ChangeShapes Go.WideShapes Go.Deep

section
variable {H : Type} {enc : TypeId × Value → H} {P : Program} {w : World} {base : Nat} {spare : Nat → Bool} {held : Bool}
theorem open_slice_fields {t e : TypeId} {fs : Array Field} {fuel : Nat} {cs : List Value} {x : DataW H × List MemPlace} (ht : P.underlying t = some (.slice e)) (he : P.underlying e = some (.struct fs))
    (hone : oneCellFields P fs = true) (hC : P.cellsOf e = fs.size) (h : DataW.trod enc P w base spare held fuel t cs = some x) :
    (cs = [.slice none 0 0] ∧ x = (.nil, [])) ∨
    ∃ (a : Addr) (len cap m : Nat) (D : Nat → DataW H) (Pl : Nat → List MemPlace), cs = [.slice (some a) len cap] ∧ base ≤ a.block ∧ len ≤ cap ∧ cap ≤ maxLen ∧ m = (if spare a.block then cap else len) ∧
      x = (.slice ((List.range len).map D) ((List.range (m - len)).map fun j => D (len + j)), MemPlace.row a (m * fs.size) ++ (List.range m).flatMap Pl) ∧
      ∀ i, i < m → ∃ (ys : List (DataW H × List MemPlace)) (n : Nat), D i = .agg (ys.map (·.1)) ∧ Pl i = ys.flatMap (·.2) ∧ ys.length = fs.size ∧
        ∀ (j : Nat) (f : Field), fs[j]? = some f → ∃ (v : Value) (y : DataW H × List MemPlace), w.cell? (a.add (i * fs.size + j)) = some v ∧ ys[j]? = some y ∧ DataW.trod enc P w base spare held n f.type [v] = some y := by
  rcases open_slice ht h with h0 | ⟨a, len, cap, m, n, D, Pl, hcs, hb, hl, hm, hmm, hx, hi⟩
  · exact .inl h0
  · refine .inr ⟨a, len, cap, m, D, Pl, hcs, hb, hl, hm, hmm, by rw [hC] at hx; exact hx, fun i him => ?_⟩
    obtain ⟨cs', hc, ht'⟩ := hi i him
    rw [hC] at hc
    obtain ⟨ys, n', hn', hy, hlen, hyl, hf⟩ := DataW.trod_struct he ht'
    obtain ⟨_, hcl, hat⟩ := World.cells?_some hc
    simp only [Prod.mk.injEq] at hy
    refine ⟨ys, n', hy.1, hy.2, hyl, fun j f hj => ?_⟩
    obtain ⟨ho, hk⟩ := hone_of hone j f hj
    have hjl : j < fs.size := (Array.getElem?_eq_some_iff.1 hj).1
    have hcell := hat j hjl
    have hv : cs'[j]? = some (cs'[j]'(by omega)) := List.getElem?_eq_getElem (by omega)
    have h1 := hf j f hj
    rw [ho, hk] at h1
    have hone' : (cs'.drop j).take 1 = [cs'[j]'(by omega)] := by
      rw [List.drop_eq_getElem_cons (by omega)]
      rfl
    rw [hone'] at h1
    have hys : ys[j]? = some (ys[j]'(by omega)) := List.getElem?_eq_getElem (by omega)
    refine ⟨_, _, ?_, hys, h1.trans hys⟩
    rw [← Go.Deep.add_add, hcell, hv]
end

theorem list_of {α : Type} {P : Nat → α → Prop} (n : Nat) (h : ∀ i, i < n → ∃ x, P i x) : ∃ l : List α, l.length = n ∧ ∀ i (h : i < l.length), P i l[i] := by
  induction n with
  | zero => exact ⟨[], rfl, fun i h => by simp at h⟩
  | succ n ih =>
    obtain ⟨l, hl, hp⟩ := ih fun i hi => h i (by omega)
    obtain ⟨x, hx⟩ := h n (by omega)
    refine ⟨l ++ [x], by simp [hl], fun i hi => ?_⟩
    by_cases hin : i < l.length
    · rw [List.getElem_append_left hin]; exact hp i hin
    · have : i = n := by simp [hl] at hi; omega
      subst this
      rw [List.getElem_append_right (by omega)]
      simpa [hl] using hx

section
variable {H : Type} {enc : TypeId × Value → H} {w : World} {base : Nat} {spare : Nat → Bool} {held : Bool}
theorem open_ins {v : Value} {d : DataW H} {p : List MemPlace} (h0 : ∃ a len cap, v = .slice a len cap) (h : DataW.Trod enc Tryd.prog w base spare held 22 v d p) :
    ∃ (A : Option Addr) (cap : Nat) (l : List InsD), v = .slice A l.length cap ∧ InsSl w A l ∧ ((d = .nil ∧ l = []) ∨ ∃ es sp, d = .slice es sp ∧ es.length = l.length) := by
  obtain ⟨a0, len0, cap0, rfl⟩ := h0
  obtain ⟨fuel, hf⟩ := h
  rcases open_slice_fields Tryd.underlying22 Tryd.underlying42 (by kernel_rfl) (by kernel_rfl) hf with ⟨hcs, hx⟩ | ⟨a, len, cap, m, D, Pl, hcs, hb, hl, hm, hmm, hx, hi⟩
  · simp [Value.cells] at hcs
    obtain ⟨rfl, rfl, rfl⟩ := hcs
    simp only [Prod.mk.injEq] at hx
    exact ⟨none, 0, [], rfl, fun hn => absurd rfl hn, .inl ⟨hx.1, rfl⟩⟩
  · simp [Value.cells] at hcs
    obtain ⟨rfl, rfl, rfl⟩ := hcs
    simp only [Prod.mk.injEq] at hx
    have hlm : len0 ≤ m := by rw [hmm]; split <;> omega
    obtain ⟨l, hll, hp⟩ := list_of (P := fun i (x : InsD) => w.cell? (a.add (i * 7 + 0)) = some (.int .i64 x.op) ∧ w.cell? (a.add (i * 7 + 1)) = some (.int .i64 x.a) ∧ w.cell? (a.add (i * 7 + 2)) = some (.int .i64 x.b) ∧ w.cell? (a.add (i * 7 + 3)) = some (.int .i64 x.c) ∧ w.cell? (a.add (i * 7 + 4)) = some (.int .u64 x.v) ∧ w.cell? (a.add (i * 7 + 5)) = some (.int .i64 x.m) ∧ w.cell? (a.add (i * 7 + 6)) = some (.int .i64 x.wh)) len0 (by
      intro i hlt
      obtain ⟨ys, n, _, _, _, hf⟩ := hi i (by omega)
      obtain ⟨v0, y0, c0, _, t0⟩ := hf 0 _ rfl
      obtain ⟨v1, y1, c1, _, t1⟩ := hf 1 _ rfl
      obtain ⟨v2, y2, c2, _, t2⟩ := hf 2 _ rfl
      obtain ⟨v3, y3, c3, _, t3⟩ := hf 3 _ rfl
      obtain ⟨v4, y4, c4, _, t4⟩ := hf 4 _ rfl
      obtain ⟨v5, y5, c5, _, t5⟩ := hf 5 _ rfl
      obtain ⟨v6, y6, c6, _, t6⟩ := hf 6 _ rfl
      obtain ⟨x0, e0, _⟩ := DataW.trod_int Tryd.underlying3 t0
      obtain ⟨x1, e1, _⟩ := DataW.trod_int Tryd.underlying3 t1
      obtain ⟨x2, e2, _⟩ := DataW.trod_int Tryd.underlying3 t2
      obtain ⟨x3, e3, _⟩ := DataW.trod_int Tryd.underlying3 t3
      obtain ⟨x4, e4, _⟩ := DataW.trod_int Tryd.underlying40 t4
      obtain ⟨x5, e5, _⟩ := DataW.trod_int Tryd.underlying3 t5
      obtain ⟨x6, e6, _⟩ := DataW.trod_int Tryd.underlying3 t6
      simp only [List.cons.injEq, and_true] at e0 e1 e2 e3 e4 e5 e6
      subst e0 e1 e2 e3 e4 e5 e6
      exact ⟨⟨x0, x1, x2, x3, x4, x5, x6⟩, c0, c1, c2, c3, c4, c5, c6⟩)
    refine ⟨some a, cap0, l, by rw [hll], fun hn => ?_, .inr ⟨_, _, hx.1, by simp [hll]⟩⟩
    obtain ⟨b, off, spot⟩ := a
    have h0 : 0 < l.length := by cases l with | nil => exact absurd rfl hn | cons _ _ => simp
    have hspot : spot = none := by simpa [Addr.add] using World.cell?_spot (hp 0 h0).1
    subst hspot
    refine ⟨b, off, rfl, fun i hi => ?_⟩
    have hq := hp i hi
    simp only [Go.WideShapes.add_plain, Nat.add_zero, ← Nat.add_assoc] at hq
    exact hq
theorem ins_sized {ts : List TypeId} {ds : List (DataW H)} (h : (DataW.weightsEach Tryd.prog ts ds).all (· ≤ reachBytes) = true) {j : Nat} {d : DataW H} {l : List InsD} (ht : ts[j]? = some 22) (hd : ds[j]? = some d)
    (hl : (d = .nil ∧ l = []) ∨ ∃ es sp, d = .slice es sp ∧ es.length = l.length) : l.length * 56 ≤ 140737488355328 := by
  rcases hl with ⟨_, rfl⟩ | ⟨es, sp, rfl, hl⟩
  · simp
  · have h1 := sized_slice h ht hd Tryd.underlying22
    have hb : Tryd.prog.bytesOf 42 = 56 := by kernel_rfl
    rw [hb] at h1
    unfold reachBytes at h1
    rw [← hl]
    omega
end
end Go.Proofs.YtcbfaobepmhidaaDoor
