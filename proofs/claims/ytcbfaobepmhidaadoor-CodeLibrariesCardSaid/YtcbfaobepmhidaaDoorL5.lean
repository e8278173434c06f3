/- A library argument: a slice of instructions, an int, a slice of rows of calls, opened. -/
import Derived.Test.YtcbfaobepmhidaaDoorL4
import Derived.Test.YtcbfaobepmhidaaDoorH1
import Derived.OpenShut
namespace Go.Proofs.YtcbfaobepmhidaaDoor
open Go.Joins Go.RowKit Go.ChangeShapes Go.WideShapes Go.Deep

theorem Tryd.cells3 : Tryd.prog.cellsOf 3 = 1 := by kernel_rfl
theorem Tryd.cells75 : Tryd.prog.cellsOf 75 = 4 := by kernel_rfl
theorem Tryd.cells77 : Tryd.prog.cellsOf 77 = 6 := by kernel_rfl
section
variable {H : Type} {enc : TypeId × Value → H} {w : World} {base : Nat} {spare : Nat → Bool} {held : Bool}
theorem some_of {α : Type} {l : List α} {i : Nat} {y : Option α} (h : y = l[i]?) (hi : i < l.length) : ∃ x, y = some x := ⟨l[i], by rw [h, List.getElem?_eq_getElem hi]⟩
set_option maxRecDepth 100000 in
theorem open_door_cells {n : Nat} {cs : List Value} {x : DataW H × List MemPlace} (h : DataW.trod enc Tryd.prog w base spare held n 77 cs = some x) : ∃ d : DoorD, cs = d.row := by
  obtain ⟨xs, m, _, _, hl, hxl, hg⟩ := DataW.trod_struct Tryd.underlying77 h
  rw [Tryd.cells77] at hl
  match cs, hl with
  | [c0, c1, c2, c3, c4, c5], _ =>
    have g0 := hg 0 _ rfl
    have g1 := hg 1 _ rfl
    have g2 := hg 2 _ rfl
    simp only [List.getElem_toArray, List.getElem_cons_zero, List.getElem_cons_succ] at g0 g1 g2
    rw [Tryd.cells3] at g0 g1
    rw [Tryd.cells75] at g2
    simp only [List.drop_zero, List.take_succ_cons, List.take_zero, List.drop_succ_cons] at g0 g1 g2
    have hx3 : xs.length = 3 := hxl
    obtain ⟨y0, s0⟩ := some_of g0 (by omega)
    obtain ⟨y1, s1⟩ := some_of g1 (by omega)
    obtain ⟨y2, s2⟩ := some_of g2 (by omega)
    obtain ⟨x0, e0, _⟩ := DataW.trod_int Tryd.underlying3 s0
    obtain ⟨x1, e1, _⟩ := DataW.trod_int Tryd.underlying3 s1
    obtain ⟨zs, k, _, _, _, hzl, hz⟩ := DataW.trod_array Tryd.underlying75 s2
    have q0 := hz 0 (by omega)
    have q1 := hz 1 (by omega)
    have q2 := hz 2 (by omega)
    have q3 := hz 3 (by omega)
    rw [Tryd.cells3] at q0 q1 q2 q3
    simp only [Nat.mul_one, List.drop_zero, List.take_succ_cons, List.take_zero, List.drop_succ_cons] at q0 q1 q2 q3
    obtain ⟨v0, r0⟩ := some_of q0 (by omega)
    obtain ⟨v1, r1⟩ := some_of q1 (by omega)
    obtain ⟨v2, r2⟩ := some_of q2 (by omega)
    obtain ⟨v3, r3⟩ := some_of q3 (by omega)
    obtain ⟨x2, e2, _⟩ := DataW.trod_int Tryd.underlying3 r0
    obtain ⟨x3, e3, _⟩ := DataW.trod_int Tryd.underlying3 r1
    obtain ⟨x4, e4, _⟩ := DataW.trod_int Tryd.underlying3 r2
    obtain ⟨x5, e5, _⟩ := DataW.trod_int Tryd.underlying3 r3
    simp only [List.cons.injEq, and_true] at e0 e1 e2 e3 e4 e5
    subst e0 e1 e2 e3 e4 e5
    exact ⟨⟨x0, x1, x2, x3, x4, x5⟩, rfl⟩

theorem open_doors {v : Value} {d : DataW H} {p : List MemPlace} {n : Nat} (h0 : ∃ a len cap, v = .slice a len cap) (hf : DataW.trod enc Tryd.prog w base spare held n 55 [v] = some (d, p)) :
    ∃ (A : Option Addr) (cap : Nat) (l : List DoorD), v = .slice A l.length cap ∧ DoorsSl w A l ∧ ((d = .nil ∧ l = []) ∨ ∃ es sp, d = .slice es sp ∧ es.length = l.length) := by
  obtain ⟨a0, len0, cap0, rfl⟩ := h0
  rcases open_slice Tryd.underlying55 hf with ⟨hcs, hx⟩ | ⟨a, len, cap, m, k, D, Pl, hcs, hb, hl, hm, hmm, hx, hi⟩
  · simp only [List.cons.injEq, and_true, Value.slice.injEq] at hcs
    obtain ⟨rfl, rfl, rfl⟩ := hcs
    simp only [Prod.mk.injEq] at hx
    exact ⟨none, 0, [], rfl, fun hn => absurd rfl hn, .inl ⟨hx.1, rfl⟩⟩
  · simp only [List.cons.injEq, and_true, Value.slice.injEq] at hcs
    obtain ⟨rfl, rfl, rfl⟩ := hcs
    simp only [Prod.mk.injEq] at hx
    have hlm : len0 ≤ m := by rw [hmm]; split <;> omega
    obtain ⟨l, hll, hp⟩ := list_of (P := fun i (x : DoorD) => ∀ j u, x.row[j]? = some u → w.cell? ((a.add (i * 6)).add j) = some u) len0 (by
      intro i hlt
      obtain ⟨cs', hc, ht⟩ := hi i (by omega)
      rw [Tryd.cells77] at hc
      obtain ⟨dd, rfl⟩ := open_door_cells ht
      obtain ⟨_, hcl, hat⟩ := World.cells?_some hc
      refine ⟨dd, fun j u hj => ?_⟩
      have hj6 : j < 6 := by
        have := (List.getElem?_eq_some_iff.1 hj).1
        simpa [DoorD.row] using this
      rw [hat j hj6, hj])
    refine ⟨some a, cap0, l, by rw [hll], fun hn => ?_, .inr ⟨_, _, hx.1, by simp [hll]⟩⟩
    obtain ⟨b, off, spot⟩ := a
    have h0 : 0 < l.length := by cases l with | nil => exact absurd rfl hn | cons _ _ => simp
    have hspot : spot = none := by
      have := hp 0 h0 0 _ rfl
      simpa [Addr.add] using World.cell?_spot this
    subst hspot
    refine ⟨b, off, rfl, fun i hi => ?_⟩
    have hq := hp i hi
    have q0 := hq 0 _ rfl
    have q1 := hq 1 _ rfl
    have q2 := hq 2 _ rfl
    have q3 := hq 3 _ rfl
    have q4 := hq 4 _ rfl
    have q5 := hq 5 _ rfl
    simp only [Go.WideShapes.add_plain, Nat.add_zero] at q0 q1 q2 q3 q4 q5
    exact ⟨q0, q1, q2, q3, q4, q5⟩
theorem open_slice_v {t e : TypeId} {n : Nat} {v : Value} {x : DataW H × List MemPlace} (ht : Tryd.prog.underlying t = some (.slice e)) (h : DataW.trod enc Tryd.prog w base spare held n t [v] = some x) : ∃ a len cap, v = .slice a len cap := by
  rcases open_slice ht h with ⟨hcs, _⟩ | ⟨a, len, cap, m, k, D, Pl, hcs, _⟩
  · exact ⟨_, _, _, by simpa using hcs⟩
  · exact ⟨_, _, _, by simpa using hcs⟩

set_option maxRecDepth 100000 in
theorem open_lib {r : Reach} {b0 : Nat} {v : Value} {d : DataW H} {p : List MemPlace} (hv : Value.okWide Tryd.prog w r b0 57 v) (h : DataW.Trod enc Tryd.prog w base spare held 57 v d p) :
    ∃ (A : Option Addr) (cap : Nat) (l : List InsD) (lp : Int) (B : Option Addr) (capB : Nat) (ds : List DoorD), v = .agg #[.slice A l.length cap, .int .i64 lp, .slice B ds.length capB] ∧ InsSl w A l ∧ DoorsSl w B ds ∧
      ∃ (d0 d1 d2 : DataW H), d = .agg [d0, d1, d2] ∧ ((d0 = .nil ∧ l = []) ∨ ∃ es sp, d0 = .slice es sp ∧ es.length = l.length) ∧ ((d2 = .nil ∧ ds = []) ∨ ∃ es sp, d2 = .slice es sp ∧ es.length = ds.length) := by
  obtain ⟨v0, v1, v2, y0, y1, y2, n, rfl, hd, _, t0, t1, t2⟩ := open_agg3 Tryd.underlying57 (by kernel_rfl) (by kernel_rfl) hv h
  obtain ⟨A, cap, l, rfl, hi, hl⟩ := open_ins_cell t0
  obtain ⟨x1, e1, _⟩ := DataW.trod_int Tryd.underlying3 t1
  simp only [List.cons.injEq, and_true] at e1
  subst e1
  obtain ⟨B, capB, ds, rfl, hds, hl2⟩ := open_doors (open_slice_v Tryd.underlying55 t2) t2
  exact ⟨A, cap, l, x1, B, capB, ds, rfl, hi, hds, _, _, _, hd, hl, hl2⟩

set_option maxRecDepth 100000 in
theorem lib_sized {ts : List TypeId} {ds : List (DataW H)} (h : (DataW.weightsEach Tryd.prog ts ds).all (· ≤ reachBytes) = true) {j : Nat} {d0 d1 d2 : DataW H} {l : List InsD} {l2 : List DoorD} (ht : ts[j]? = some 57) (hd : ds[j]? = some (.agg [d0, d1, d2]))
    (hl : (d0 = .nil ∧ l = []) ∨ ∃ es sp, d0 = .slice es sp ∧ es.length = l.length) (hl2 : (d2 = .nil ∧ l2 = []) ∨ ∃ es sp, d2 = .slice es sp ∧ es.length = l2.length) : l.length * 56 ≤ 140737488355328 ∧ l2.length * 48 ≤ 140737488355328 := by
  constructor
  · rcases hl with ⟨_, rfl⟩ | ⟨es, sp, rfl, hl⟩
    · simp
    · have hb : Tryd.prog.bytesOf 42 = 56 := by kernel_rfl
      have hm := List.all_eq_true.1 h _ (DataW.weights_mem_each ht hd ((es.length + sp.length) * Tryd.prog.bytesOf 42) (by simp [DataW.weights, DataW.weightsEach, Tryd.underlying57, Tryd.underlying22]))
      rw [hb] at hm
      simp only [decide_eq_true_eq] at hm
      unfold reachBytes at hm
      rw [← hl]
      omega
  · rcases hl2 with ⟨_, rfl⟩ | ⟨es, sp, rfl, hl2⟩
    · simp
    · have hb : Tryd.prog.bytesOf 77 = 48 := by kernel_rfl
      have hm := List.all_eq_true.1 h _ (DataW.weights_mem_each ht hd ((es.length + sp.length) * Tryd.prog.bytesOf 77) (by simp [DataW.weights, DataW.weightsEach, Tryd.underlying57, Tryd.underlying55]))
      rw [hb] at hm
      simp only [decide_eq_true_eq] at hm
      unfold reachBytes at hm
      rw [← hl2]
      omega
end
end Go.Proofs.YtcbfaobepmhidaaDoor
