/- What the condition on the listed variable gives a walk; the arguments opened; one lemma for every law's row of this seat. -/
import Derived.Test.YtoncebfhkoabaaaDoorRows
import Derived.Test.YtoncebfhkoabaaaDoorTie
import Derived.Test.YtoncebfhkoabaaaDoorCards
import Derived.Test.YtoncebfhkoabaaaDoorC5b
import Derived.Test.YtoncebfhkoabaaaDoorC4b
import Derived.Test.YtoncebfhkoabaaaDoorV14
import Derived.Test.YtoncebfhkoabaaaDoorV12
import Derived.Deep.Slices
import Derived.Deep.Fields
import Derived.ChangeSame
import Derived.ChangeVars
import Derived.ChangeCalls
import Derived.JoinedOf
import Derived.RowKit
import Derived.RowKitTokens
import Derived.LaidLaws
import Derived.LaidHandle
import Derived.Stop.Joined
import Derived.ProofKit
import Derived.SevenTiedAt
import Derived.OpenShut
import Derived.SizedLaws
namespace Go.Proofs.YtoncebfhkoabaaaDoor
open Go.ChangeShapes Go.WideShapes Go.ChangeAt Go.RowKit Go.Deep

theorem Tryd.ownK : ownKnob Tryd.prog.godebug = none := by kernel_rfl
theorem Tryd.et : Tryd.prog.globalNamed "errors.errorType" = some 0 := by kernel_rfl
theorem Tryd.rt : (Tryd.prog.cutTypes.find? (·.1 == "internal/reflectlite.rtype")).map (·.2) = some 127 := by kernel_rfl
theorem Tryd.size : Tryd.prog.types.size = 175 := by kernel_rfl
theorem Tryd.oneRow : ((List.range 175).filter fun t => Tryd.prog.rowNamed t [101, 114, 114, 111, 114]) = [37] := by kernel_rfl

theorem handle_of_laid {W : World} (h : laidMetH Tryd.prog [("errors.errorType", Rows.laid_errors_errorType)] W) : Gl W := by
  have h' : laidMet Tryd.prog [] W ∧ handlesMet Tryd.prog [("errors.errorType", Rows.laid_errors_errorType)] W := h
  obtain ⟨name, u, ty, e1, e2, e3, e4, e5⟩ := h'.2 _ (List.mem_singleton.2 rfl)
  have en : name = [101, 114, 114, 111, 114] := (Option.some.inj e1).symm
  subst en
  obtain rfl := Option.some.inj (Tryd.rt.symm.trans e2)
  have hm : ty ∈ (List.range 175).filter fun t => Tryd.prog.rowNamed t [101, 114, 114, 111, 114] := List.mem_filter.2 ⟨List.mem_range.2 (by rw [← Tryd.size]; exact e3), e4⟩
  rw [Tryd.oneRow] at hm
  obtain rfl := List.mem_singleton.1 hm
  have hh : typeHandle Tryd.prog 37 = .pointer (some ⟨1, 37, none⟩) := by kernel_rfl
  rw [hh] at e5
  exact World.var?_cell Tryd.et e5 0

/-- A world that meets the condition: the settled one, the variable's cell laid. -/
noncomputable def laidWorld (os : Os) : World :=
  let w0 := World.holding Tryd.prog os ⟨#[], #[], []⟩
  { w0 with heap := w0.heap.modify 0 fun
      | .cells _ t frozen => .cells #[.iface 127 (.agg #[.pointer (some ⟨1, 37, none⟩)])] t frozen
      | o => o }
theorem laidWorld_met (os : Os) (args : Array Value) : laidMetH Tryd.prog [("errors.errorType", Rows.laid_errors_errorType)] ((laidWorld os).forCall (fun _ _ => 0) ⟨#[], args, []⟩).memory :=
  laidMetH_of_parts (laidMet_nil _ _) (by kernel_rfl)


/-- Nothing that was there has turned: each argument reads behind the call as it read before. -/
theorem trodAll_ext {H : Type} {enc : TypeId × Value → H} {W W' : World} (hb : Below W.heap.size W W') : ∀ {ts : List TypeId} {vs : List Value} {ds : List (DataW H)} {ps : List MemPlace},
    (∀ t ∈ ts, Tryd.prog.readableRec t = true ∧ t < Tryd.prog.types.size) → DataW.TrodAll enc Tryd.prog W 0 (fun _ => true) true ts vs ds ps → (∀ x ∈ ps, x.block < W.heap.size) →
    DataW.TrodAll enc Tryd.prog W' 0 (fun b => decide (b < W.heap.size)) true ts vs ds ps := by
  intro ts
  induction ts with
  | nil =>
    intro vs ds ps _ h _
    obtain ⟨rfl, rfl, rfl⟩ := trodAll_nil h
    exact trodAll_mk0
  | cons t ts ih =>
    intro vs ds ps ht h hlt
    obtain ⟨v, vs', d, ds', p, q, rfl, rfl, rfl, h1, h2⟩ := trodAll_cons h
    obtain ⟨hr, hs⟩ := ht t (by simp)
    exact trodAll_cons_mk (Below.trod (by kernel_rfl) hr hs h1 hb fun x hx => hlt x (by simp [hx])) (ih (fun t' ht' => ht t' (by simp [ht'])) h2 fun x hx => hlt x (by simp [hx]))

section
variable {H : Type} {enc : TypeId × Value → H} {P : Program} {w : World} {base : Nat} {spare : Nat → Bool} {held : Bool}
theorem open_slice_fields {t e : TypeId} {fs : Array Field} {fuel : Nat} {cs : List Value} {x : DataW H × List MemPlace} (ht : P.underlying t = some (.slice e)) (he : P.underlying e = some (.struct fs))
    (hone : oneCellFields P fs = true) (hC : P.cellsOf e = fs.size) (h : DataW.trod enc P w base spare held fuel t cs = some x) :
    (cs = [.slice none 0 0] ∧ x = (.nil, [])) ∨
    ∃ (a : Addr) (len cap m : Nat) (D : Nat → DataW H) (Pl : Nat → List MemPlace), cs = [.slice (some a) len cap] ∧ base ≤ a.block ∧ len ≤ cap ∧ cap ≤ maxLen ∧ m = (if spare a.block then cap else len) ∧
      x = (.slice ((List.range len).map D) ((List.range (m - len)).map fun j => D (len + j)), MemPlace.row a (m * fs.size) ++ (List.range m).flatMap Pl) ∧
      ∀ i, i < m → ∃ (ys : List (DataW H × List MemPlace)) (n : Nat), D i = .agg (ys.map (·.1)) ∧ Pl i = ys.flatMap (·.2) ∧ ys.length = fs.size ∧
        ∀ (j : Nat) (f : Field), fs[j]? = some f → ∃ (v : Value) (y : DataW H × List MemPlace), w.cell? (a.add (i * fs.size + j)) = some v ∧ ys[j]? = some y ∧ DataW.trod enc P w base spare held n f.type [v] = some y := by
  rcases open_slice ht h with h0 | ⟨a, len, cap, m, n, D, Pl, hcs, hb, hl, hm, hmm, hx, hi⟩
  · exact .inl h0
  · refine .inr ⟨a, len, cap, m, D, Pl, hcs, hb, hl, hm, hmm, by rw [hC] at hx; exact hx, fun i him => ?_⟩
    obtain ⟨cs', hc, ht'⟩ := hi i him
    rw [hC] at hc
    obtain ⟨ys, n', hn', hy, hlen, hyl, hf⟩ := DataW.trod_struct he ht'
    obtain ⟨_, hcl, hat⟩ := World.cells?_some hc
    simp only [Prod.mk.injEq] at hy
    refine ⟨ys, n', hy.1, hy.2, hyl, fun j f hj => ?_⟩
    obtain ⟨ho, hk⟩ := hone_of hone j f hj
    have hjl : j < fs.size := (Array.getElem?_eq_some_iff.1 hj).1
    have hcell := hat j hjl
    have hv : cs'[j]? = some (cs'[j]'(by omega)) := List.getElem?_eq_getElem (by omega)
    have h1 := hf j f hj
    rw [ho, hk] at h1
    have hone' : (cs'.drop j).take 1 = [cs'[j]'(by omega)] := by
      rw [List.drop_eq_getElem_cons (by omega)]
      rfl
    rw [hone'] at h1
    have hys : ys[j]? = some (ys[j]'(by omega)) := List.getElem?_eq_getElem (by omega)
    refine ⟨_, _, ?_, hys, h1.trans hys⟩
    rw [← Go.Deep.add_add, hcell, hv]
end

theorem list_of {α : Type} {P : Nat → α → Prop} (n : Nat) (h : ∀ i, i < n → ∃ x, P i x) : ∃ l : List α, l.length = n ∧ ∀ i (h : i < l.length), P i l[i] := by
  induction n with
  | zero => exact ⟨[], rfl, fun i h => by simp at h⟩
  | succ n ih =>
    obtain ⟨l, hl, hp⟩ := ih fun i hi => h i (by omega)
    obtain ⟨x, hx⟩ := h n (by omega)
    refine ⟨l ++ [x], by simp [hl], fun i hi => ?_⟩
    by_cases hin : i < l.length
    · rw [List.getElem_append_left hin]; exact hp i hin
    · have : i = n := by simp [hl] at hi; omega
      subst this
      rw [List.getElem_append_right (by omega)]
      simpa [hl] using hx

section
variable {H : Type} {enc : TypeId × Value → H} {w : World} {base : Nat} {spare : Nat → Bool} {held : Bool}
theorem open_ins {v : Value} {d : DataW H} {p : List MemPlace} (h0 : ∃ a len cap, v = .slice a len cap) (h : DataW.Trod enc Tryd.prog w base spare held 22 v d p) :
    ∃ (A : Option Addr) (cap : Nat) (l : List InsD), v = .slice A l.length cap ∧ InsSl w A l ∧ (∀ x ∈ l, Rng x.v) ∧ ((d = .nil ∧ l = []) ∨ ∃ es sp, d = .slice es sp ∧ es.length = l.length) := by
  obtain ⟨a0, len0, cap0, rfl⟩ := h0
  obtain ⟨fuel, hf⟩ := h
  rcases open_slice_fields Tryd.underlying22 Tryd.underlying52 (by kernel_rfl) (by kernel_rfl) hf with ⟨hcs, hx⟩ | ⟨a, len, cap, m, D, Pl, hcs, hb, hl, hm, hmm, hx, hi⟩
  · simp [Value.cells] at hcs
    obtain ⟨rfl, rfl, rfl⟩ := hcs
    simp only [Prod.mk.injEq] at hx
    exact ⟨none, 0, [], rfl, fun hn => absurd rfl hn, by simp, .inl ⟨hx.1, rfl⟩⟩
  · simp [Value.cells] at hcs
    obtain ⟨rfl, rfl, rfl⟩ := hcs
    simp only [Prod.mk.injEq] at hx
    have hlm : len0 ≤ m := by rw [hmm]; split <;> omega
    obtain ⟨l, hll, hp⟩ := list_of (P := fun i (x : InsD) => w.cell? (a.add (i * 7 + 0)) = some (.int .i64 x.op) ∧ w.cell? (a.add (i * 7 + 1)) = some (.int .i64 x.a) ∧ w.cell? (a.add (i * 7 + 2)) = some (.int .i64 x.b) ∧ w.cell? (a.add (i * 7 + 3)) = some (.int .i64 x.c) ∧ w.cell? (a.add (i * 7 + 4)) = some (.int .u64 x.v) ∧ w.cell? (a.add (i * 7 + 5)) = some (.int .i64 x.m) ∧ w.cell? (a.add (i * 7 + 6)) = some (.int .i64 x.wh) ∧ Rng x.v) len0 (by
      intro i hlt
      obtain ⟨ys, n, _, _, _, hf⟩ := hi i (by omega)
      obtain ⟨v0, y0, c0, _, t0⟩ := hf 0 _ rfl
      obtain ⟨v1, y1, c1, _, t1⟩ := hf 1 _ rfl
      obtain ⟨v2, y2, c2, _, t2⟩ := hf 2 _ rfl
      obtain ⟨v3, y3, c3, _, t3⟩ := hf 3 _ rfl
      obtain ⟨v4, y4, c4, _, t4⟩ := hf 4 _ rfl
      obtain ⟨v5, y5, c5, _, t5⟩ := hf 5 _ rfl
      obtain ⟨v6, y6, c6, _, t6⟩ := hf 6 _ rfl
      obtain ⟨x0, e0, _⟩ := DataW.trod_int Tryd.underlying3 t0
      obtain ⟨x1, e1, _⟩ := DataW.trod_int Tryd.underlying3 t1
      obtain ⟨x2, e2, _⟩ := DataW.trod_int Tryd.underlying3 t2
      obtain ⟨x3, e3, _⟩ := DataW.trod_int Tryd.underlying3 t3
      obtain ⟨x4, e4, _, hw⟩ := DataW.trod_int Tryd.underlying47 t4
      obtain ⟨x5, e5, _⟩ := DataW.trod_int Tryd.underlying3 t5
      obtain ⟨x6, e6, _⟩ := DataW.trod_int Tryd.underlying3 t6
      simp only [List.cons.injEq, and_true] at e0 e1 e2 e3 e4 e5 e6
      subst e0 e1 e2 e3 e4 e5 e6
      have h2 : 0 ≤ x4 ∧ x4 ≤ 18446744073709551615 := by
        simp only [Lit.wf, Bool.and_eq_true, decide_eq_true_eq] at hw
        exact hw
      exact ⟨⟨x0, x1, x2, x3, x4, x5, x6⟩, c0, c1, c2, c3, c4, c5, c6, h2.1, (by show x4 < 18446744073709551616; omega)⟩)
    refine ⟨some a, cap0, l, by rw [hll], fun hn => ?_, fun x hx => by obtain ⟨i, hi, rfl⟩ := List.getElem_of_mem hx; exact (hp i hi).2.2.2.2.2.2.2, .inr ⟨_, _, hx.1, by simp [hll]⟩⟩
    obtain ⟨b, off, spot⟩ := a
    have h0 : 0 < l.length := by cases l with | nil => exact absurd rfl hn | cons _ _ => simp
    have hspot : spot = none := by simpa [Addr.add] using World.cell?_spot (hp 0 h0).1
    subst hspot
    refine ⟨b, off, rfl, fun i hi => ?_⟩
    have hq := hp i hi
    simp only [Go.WideShapes.add_plain, Nat.add_zero, ← Nat.add_assoc] at hq
    exact ⟨hq.1, hq.2.1, hq.2.2.1, hq.2.2.2.1, hq.2.2.2.2.1, hq.2.2.2.2.2.1, hq.2.2.2.2.2.2.1⟩
theorem ins_sized {ts : List TypeId} {ds : List (DataW H)} (h : (DataW.weightsEach Tryd.prog ts ds).all (· ≤ reachBytes) = true) {j : Nat} {d : DataW H} {l : List InsD} (ht : ts[j]? = some 22) (hd : ds[j]? = some d)
    (hl : (d = .nil ∧ l = []) ∨ ∃ es sp, d = .slice es sp ∧ es.length = l.length) : l.length * 56 ≤ 140737488355328 := by
  rcases hl with ⟨_, rfl⟩ | ⟨es, sp, rfl, hl⟩
  · simp
  · have h1 := sized_slice h ht hd Tryd.underlying22
    have hb : Tryd.prog.bytesOf 52 = 56 := by kernel_rfl
    rw [hb] at h1
    unfold reachBytes at h1
    rw [← hl]
    omega
end
theorem rng_getD {l : List Int} (h : ∀ j (hj : j < l.length), Rng l[j]) (i : Nat) : Rng (l.getD i 0) := by
  rw [List.getD_eq_getElem?_getD]
  by_cases hi : i < l.length
  · rw [List.getElem?_eq_getElem hi]; exact h i hi
  · rw [List.getElem?_eq_none (by omega)]; exact ⟨by decide, by decide⟩
section
variable {H : Type} {enc : TypeId × Value → H} {w : World} {base : Nat} {spare : Nat → Bool} {held : Bool}
theorem open_u64s {v : Value} {d : DataW H} {p : List MemPlace} (h0 : ∃ a len cap, v = .slice a len cap) (h : DataW.Trod enc Tryd.prog w base spare held 23 v d p) :
    ∃ (A : Option Addr) (cap : Nat) (l : List Int), v = .slice A l.length cap ∧ U64Sl w A l ∧ (∀ i, Rng (l.getD i 0)) ∧ (l.length : Int) ≤ 9223372036854775807 := by
  obtain ⟨a0, len0, cap0, rfl⟩ := h0
  obtain ⟨fuel, hf⟩ := h
  have hC : Tryd.prog.cellsOf 47 = 1 := by kernel_rfl
  rcases open_slice Tryd.underlying23 hf with ⟨hcs, hx⟩ | ⟨a, len, cap, m, n, D, Pl, hcs, hb, hl, hm, hmm, hx, hi⟩
  · simp [Value.cells] at hcs
    obtain ⟨rfl, rfl, rfl⟩ := hcs
    exact ⟨none, 0, [], rfl, fun hn => absurd rfl hn, fun i => by simp [Rng], by simp⟩
  · simp [Value.cells] at hcs
    obtain ⟨rfl, rfl, rfl⟩ := hcs
    have hlm : len0 ≤ m := by rw [hmm]; split <;> omega
    rw [hC] at hi
    obtain ⟨l, hll, hp⟩ := list_of (P := fun i (x : Int) => w.cell? (a.add i) = some (.int .u64 x) ∧ Rng x) len0 (by
      intro i hlt
      obtain ⟨cs', hc, ht'⟩ := hi i (by omega)
      obtain ⟨x, e, _, hw⟩ := DataW.trod_int Tryd.underlying47 ht'
      subst e
      obtain ⟨_, hcl, hat⟩ := World.cells?_some hc
      have h1 := hat 0 (by omega)
      rw [Nat.mul_one, Go.Deep.add_add, Nat.add_zero] at h1
      have h2 : 0 ≤ x ∧ x ≤ 18446744073709551615 := by
        simp only [Lit.wf, Bool.and_eq_true, decide_eq_true_eq] at hw
        exact hw
      exact ⟨x, h1, h2.1, (by omega)⟩)
    refine ⟨some a, cap0, l, by rw [hll], fun hn => ?_, fun i => rng_getD (fun j hj => (hp j hj).2) i, by rw [hll]; unfold maxLen at hm; omega⟩
    obtain ⟨b, off, spot⟩ := a
    have h0 : 0 < l.length := by cases l with | nil => exact absurd rfl hn | cons _ _ => simp
    have hspot : spot = none := by simpa [Addr.add] using World.cell?_spot (hp 0 h0).1
    subst hspot
    refine ⟨b, off, rfl, fun i hi => ?_⟩
    have hq := hp i hi
    simp only [Go.WideShapes.add_plain] at hq
    rw [List.getD_eq_getElem?_getD, List.getElem?_eq_getElem hi]
    exact hq.1
theorem open_i64s {v : Value} {d : DataW H} {p : List MemPlace} (h0 : ∃ a len cap, v = .slice a len cap) (h : DataW.Trod enc Tryd.prog w base spare held 24 v d p) :
    ∃ (A : Option Addr) (cap : Nat) (l : List Int), v = .slice A l.length cap ∧ BackIs w A l ∧ (l.length : Int) ≤ 9223372036854775807 := by
  obtain ⟨a0, len0, cap0, rfl⟩ := h0
  obtain ⟨fuel, hf⟩ := h
  have hC : Tryd.prog.cellsOf 3 = 1 := by kernel_rfl
  rcases open_slice Tryd.underlying24 hf with ⟨hcs, hx⟩ | ⟨a, len, cap, m, n, D, Pl, hcs, hb, hl, hm, hmm, hx, hi⟩
  · simp [Value.cells] at hcs
    obtain ⟨rfl, rfl, rfl⟩ := hcs
    exact ⟨none, 0, [], rfl, fun hn => absurd rfl hn, by simp⟩
  · simp [Value.cells] at hcs
    obtain ⟨rfl, rfl, rfl⟩ := hcs
    have hlm : len0 ≤ m := by rw [hmm]; split <;> omega
    rw [hC] at hi
    obtain ⟨l, hll, hp⟩ := list_of (P := fun i (x : Int) => w.cell? (a.add i) = some (.int .i64 x)) len0 (by
      intro i hlt
      obtain ⟨cs', hc, ht'⟩ := hi i (by omega)
      obtain ⟨x, e, _⟩ := DataW.trod_int Tryd.underlying3 ht'
      subst e
      obtain ⟨_, hcl, hat⟩ := World.cells?_some hc
      have h1 := hat 0 (by omega)
      rw [Nat.mul_one, Go.Deep.add_add, Nat.add_zero] at h1
      exact ⟨x, h1⟩)
    refine ⟨some a, cap0, l, by rw [hll], fun hn => ?_, by rw [hll]; unfold maxLen at hm; omega⟩
    obtain ⟨b, off, spot⟩ := a
    have h0 : 0 < l.length := by cases l with | nil => exact absurd rfl hn | cons _ _ => simp
    have hspot : spot = none := by simpa [Addr.add] using World.cell?_spot (hp 0 h0)
    subst hspot
    refine ⟨b, off, rfl, fun i hi => ?_⟩
    have hq := hp i hi
    simp only [Go.WideShapes.add_plain] at hq
    rw [List.getD_eq_getElem?_getD, List.getElem?_eq_getElem hi]
    exact hq
end
theorem i64_bd {n : Int} (h : (Lit.int .i64 n).wf = true) : -9223372036854775808 ≤ n ∧ n < 9223372036854775808 := by
  simp only [Lit.wf, Bool.and_eq_true, decide_eq_true_eq] at h
  have h1 := h.1
  have h2 := h.2
  constructor
  · exact h1
  · have : (n : Int) ≤ 9223372036854775807 := h2
    omega

abbrev LaidV {H : Type} : List (String × DataW H) := [("errors.errorType", Rows.laid_errors_errorType)]

set_option maxRecDepth 100000 in
theorem lifted_of {f : FuncId} {fn : Func} {s : ChangeSpec} (os : Os) (started : os.Started) (H : Type) (enc : TypeId × Value → H)
    (hfn : Tryd.prog.funcs[f]? = some fn) (hinit : Tryd.prog.inits.idxOf? f = none) (hvars : s.vars = [])
    (witness : ∃ (w : World) (tape : Tape) (i : Input), w.os = os ∧ (w.forCall tape i).Shaped Tryd.prog ∧ i.vars = [] ∧ Input.okWide Tryd.prog (w.forCall tape i) .any w.heap.size f i ∧
      ((s.pre enc Tryd.prog fn [] false (w.forCall tape i).memory i.args ∧ laidMetH Tryd.prog LaidV (w.forCall tape i).memory) ∧ sizedMet enc Tryd.prog fn (OpenSpec.ofChange s) false (w.forCall tape i).memory i.args) ∧ ({} : Assume).holds Tryd.prog (lone (Frame.enter Tryd.prog f i.args .normal) [] (w.forCall tape i)))
    (hread : ∀ t ∈ fn.params.toList, Tryd.prog.readableRec t = true ∧ t < Tryd.prog.types.size)
    (hres : fn.resultTypes = #[4])
    (hspec : ∀ ds : List (DataW H), ds.length = fn.params.size → s.fn H (ds ++ []) = { results := [.lit (.bool true)], args := ds })
    (walk : ∀ (W : World) (base : Nat) (args : Array Value) (ds : List (DataW H)) (ps : List MemPlace),
      (∀ (j : Nat) t v, fn.params[j]? = some t → args[j]? = some v → Value.okWide Tryd.prog W .any base t v) →
      DataW.TrodAll enc Tryd.prog W 0 (fun _ => true) true fn.params.toList args.toList ds ps →
      (DataW.weightsEach Tryd.prog fn.params.toList ds).all (· ≤ reachBytes) = true → Gl W →
      Calls Tryd.prog f args W fun e w' => e = .returned (.bool true) ∧ Ext W w') :
    ReturnsInHanded {} Tryd.checked os f .any (fun w args => (s.pre enc Tryd.prog fn [] false w args ∧ laidMetH Tryd.prog LaidV w) ∧ sizedMet enc Tryd.prog fn (OpenSpec.ofChange s) false w args)
      (s.post enc Tryd.prog fn false true false false) := by
  refine returnsInHanded_of_change_and (C := Tryd.checked) (X := fun w _ => laidMetH Tryd.prog LaidV w) (fun _ _ _ hh h => h.of_heap hh) Tryd.ownK started hinit hfn witness ?_
  intro W base args ds gs before hval0 hW _ hsz hL _
  have hW' := hW
  obtain ⟨p, q, hA0, hV0, rfl, hfz, hnd⟩ := hW
  have hA : DataW.TrodAll enc Tryd.prog W 0 (fun _ => true) true fn.params.toList args.toList ds p := hA0
  have hV : DataW.TrodVars enc Tryd.prog W (fun _ => true) [] gs q := by rw [hvars] at hV0; exact hV0
  obtain ⟨rfl, rfl⟩ : gs = [] ∧ q = [] := by
    cases gs with
    | nil => exact ⟨rfl, hV⟩
    | cons g r => exact absurd hV (by intro h; cases h)
  have hlen : ds.length = fn.params.size := by
    have := Go.trodAll_length hA
    simp at this
    omega
  have hg := handle_of_laid hL
  have hwt : (DataW.weightsEach Tryd.prog fn.params.toList ds).all (· ≤ reachBytes) = true := by
    have e : s.plain.varTypes Tryd.prog = [] := by unfold DataSpec.varTypes ChangeSpec.plain; rw [hvars]; rfl
    have h2 : (DataW.weightsEach Tryd.prog (fn.params.toList ++ s.plain.varTypes Tryd.prog) (ds ++ [])).all (· ≤ reachBytes) = true := hsz
    rw [e, List.append_nil, List.append_nil] at h2
    exact h2
  refine (walk W base args ds p hval0 hA hwt hg).mono fun e W' ⟨he, hx⟩ => ?_
  subst he
  have e1 := hspec ds hlen
  refine ⟨_, rfl, _, _, _, [], p, [], hW', ?_, ?_, ?_, hx.frame _, fun h => by cases h⟩
  · rw [e1, hres]; exact trodAll_mk1 (shut_bool Tryd.underlying4 true)
  · rw [e1]; exact trodAll_ext hx hread hA (DataW.TrodAll.lt hA)
  · rw [e1, hvars]; rfl
end Go.Proofs.YtoncebfhkoabaaaDoor
