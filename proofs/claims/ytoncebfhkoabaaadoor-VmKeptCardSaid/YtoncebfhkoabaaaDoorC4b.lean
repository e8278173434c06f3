/- Walks of distaffkeep.CopyCode and distaffkeep.Code. -/
import Derived.Test.YtoncebfhkoabaaaDoorK2
import Derived.Test.YtoncebfhkoabaaaDoorL1
namespace Go.Proofs.YtoncebfhkoabaaaDoor
open Go.RowKit Go.Extern.Stop Go.Stop Go.Extern

/-- The slice '.slice A l.length c' holds the instructions l (of an empty one nothing is asked). -/
def InsSl (w : World) (A : Option Addr) (l : List InsD) : Prop := l ≠ [] → ∃ b off, A = some ⟨b, off, none⟩ ∧ InsAt w b off l
theorem InsSl.ext {w w' : World} {A : Option Addr} {l : List InsD} (h : InsSl w A l) (hx : Ext w w') : InsSl w' A l := fun hn => by
  obtain ⟨b, off, e, hi⟩ := h hn
  exact ⟨b, off, e, hi.ext hx⟩

def InsD.row (x : InsD) : List Value := [.int .i64 x.op, .int .i64 x.a, .int .i64 x.b, .int .i64 x.c, .int .u64 x.v, .int .i64 x.m, .int .i64 x.wh]
def insRow (l : List InsD) : List Value := l.flatMap InsD.row
theorem insRow_length (l : List InsD) : (insRow l).length = l.length * 7 := by
  induction l with
  | nil => rfl
  | cons x r ih => simp only [insRow, List.flatMap_cons, List.length_append, List.length_cons] at *; rw [ih]; simp [InsD.row]; omega
theorem insRow_at (l : List InsD) (i j : Nat) (hi : i < l.length) (hj : j < 7) : (insRow l)[i * 7 + j]? = (l[i].row)[j]? := by
  induction l generalizing i with
  | nil => simp at hi
  | cons x r ih =>
    have hx : x.row.length = 7 := rfl
    simp only [insRow, List.flatMap_cons]
    cases i with
    | zero => rw [List.getElem?_append_left (by omega)]; simp
    | succ i =>
      rw [List.getElem?_append_right (by omega), hx, show (i + 1) * 7 + j - 7 = i * 7 + j by omega]
      simp only [List.length_cons] at hi
      rw [show (List.flatMap InsD.row r) = insRow r from rfl, ih i (by omega)]
      simp
theorem insAt_of {w : World} {b off : Nat} {l : List InsD} (h : ∀ j u, (insRow l)[j]? = some u → w.cell? ⟨b, off + j, none⟩ = some u) : InsAt w b off l := by
  intro i hi
  refine ⟨?_, ?_, ?_, ?_, ?_, ?_, ?_⟩
  · exact h (i * 7 + 0) _ (by rw [insRow_at l i 0 hi (by omega)]; rfl)
  · exact h (i * 7 + 1) _ (by rw [insRow_at l i 1 hi (by omega)]; rfl)
  · exact h (i * 7 + 2) _ (by rw [insRow_at l i 2 hi (by omega)]; rfl)
  · exact h (i * 7 + 3) _ (by rw [insRow_at l i 3 hi (by omega)]; rfl)
  · exact h (i * 7 + 4) _ (by rw [insRow_at l i 4 hi (by omega)]; rfl)
  · exact h (i * 7 + 5) _ (by rw [insRow_at l i 5 hi (by omega)]; rfl)
  · exact h (i * 7 + 6) _ (by rw [insRow_at l i 6 hi (by omega)]; rfl)
theorem insAt_cell {w : World} {b off : Nat} {l : List InsD} (h : InsAt w b off l) (j : Nat) (u : Value) (hj : (insRow l)[j]? = some u) : w.cell? ⟨b, off + j, none⟩ = some u := by
  have hlt : j < l.length * 7 := by
    rw [← insRow_length]
    exact (List.getElem?_eq_some_iff.1 hj).1
  have hi : j / 7 < l.length := by omega
  obtain ⟨c0, c1, c2, c3, c4, c5, c6⟩ := h (j / 7) hi
  have hk : j % 7 < 7 := Nat.mod_lt _ (by omega)
  have e : j = j / 7 * 7 + j % 7 := by omega
  rw [e, insRow_at l _ _ hi hk] at hj
  rw [e]
  generalize j % 7 = k at *
  match k, hk with
  | 0, _ => rw [← hj]; exact c0
  | 1, _ => rw [← hj]; exact c1
  | 2, _ => rw [← hj]; exact c2
  | 3, _ => rw [← hj]; exact c3
  | 4, _ => rw [← hj]; exact c4
  | 5, _ => rw [← hj]; exact c5
  | 6, _ => rw [← hj]; exact c6
theorem insRow_one (l : List InsD) : ∀ u ∈ insRow l, u.oneCell' = true := by
  intro u hu
  obtain ⟨x, _, hx⟩ := List.mem_flatMap.1 hu
  simp only [InsD.row, List.mem_cons, List.not_mem_nil, or_false] at hx
  rcases hx with rfl | rfl | rfl | rfl | rfl | rfl | rfl <;> rfl
theorem reads_of {w : World} {A : Option Addr} {l : List InsD} (h : InsSl w A l) : Reads w w.heap.size 7 A l.length (insRow l) := by
  refine ⟨insRow_length l, fun hn => ?_⟩
  obtain ⟨b, off, rfl, hi⟩ := h (by intro e; subst e; simp at hn)
  refine ⟨_, rfl, World.block_lt_of_cell? _ _ (hi 0 hn).1, fun j u hj => ?_⟩
  have := insAt_cell hi j u hj
  unfold Addr.add
  by_cases h0 : j = 0
  · subst h0; simpa using this
  · rw [if_neg h0]; exact this
theorem insSl_own {w : World} {base c : Nat} {A : Option Addr} {l : List InsD} (h : w.ownsRow base 52 7 (.slice A l.length c) l.length (insRow l)) : InsSl w A l := by
  intro hn
  have hr := Reads.of_own h
  have h0 : 0 < l.length := by cases l with | nil => exact absurd rfl hn | cons _ _ => simp
  obtain ⟨g, cap, hv, _, hlt⟩ := h.form h0
  have hA : A = some ⟨g, 0, none⟩ := by injection hv
  subst hA
  refine ⟨g, 0, rfl, insAt_of fun j u hj => ?_⟩
  have hx := h.cells (g := g) rfl j u hj
  unfold Addr.add at hx
  by_cases hj0 : j = 0
  · subst hj0; simpa using hx
  · rw [if_neg hj0] at hx; exact hx

theorem Tryd.insInfo : (Tryd.prog.info? 52).map (fun i => (i.zero, i.size, i.bytes)) = some (some (.agg #[.int .i64 0, .int .i64 0, .int .i64 0, .int .i64 0, .int .u64 0, .int .i64 0, .int .i64 0]), 7, 56) := by kernel_rfl

theorem copyCode_any (A : Option Addr) (cap : Nat) (l : List InsD) (hb : l.length * 56 ≤ 140737488355328) (w : World) (hi : InsSl w A l) :
    Calls Tryd.prog 8 #[.slice A l.length cap] w fun e w' => ∃ A' c, e = .returned (.slice A' l.length c) ∧ InsSl w' A' l ∧ l.length ≤ c ∧ Ext w w' := by
  obtain ⟨i0, hi0, hz0, hz1, hz2⟩ := info_parts Tryd.insInfo
  have hr := reads_of hi
  go_enter Tryd.func8, Tryd.ntmps8
  go_wp2_with (first
    | (at_builtin
       refine wpList_append_any _ rfl _ _ _ rfl w.heap.size 52 i0 _ 7 56 Tryd.underlying22 hi0 hz0 hz1 hz2 rfl (by omega) (.slice none 0 0) 0 [] rfl
         ⟨by simp, .inl ⟨rfl, rfl⟩⟩ w.heap.size A l.length cap (insRow l) rfl hr (insRow_one l) (by simp only [maxLen]; omega) (by omega) (Nat.le_refl _) ?_
       intro v1 w1 hown1 hg1 hat1
       have hbw1 : Below w.heap.size w w1 := (Below.refl _ _).grown hg1 (Nat.le_refl _) (by simp [Value.ownBlock])))
  go_ret
  obtain ⟨A', c, rfl, hc⟩ : ∃ A' c, v1 = .slice A' l.length c ∧ l.length ≤ c := by
    obtain ⟨_, ⟨rfl, h0⟩ | ⟨g, cp, cur, rfl, _, _, hnc, _⟩⟩ := hown1
    · have : l.length = 0 := by omega
      exact ⟨none, 0, by rw [this], by omega⟩
    · exact ⟨_, cp, by rw [Nat.zero_add], by omega⟩
  exact ⟨A', c, rfl, insSl_own (by simpa using hown1), hc, hbw1⟩

set_option maxHeartbeats 1000000 in
theorem code_same (A B : Option Addr) (c d : Nat) (l : List InsD) (hm : (l.length : Int) ≤ 9223372036854775807) (w : World) (ha : InsSl w A l) (hb : InsSl w B l) :
    Calls Tryd.prog 14 #[.slice A l.length c, .slice B l.length d] w fun e w' => e = .returned (.bool true) ∧ ∃ n, w' = w.drewN n := by
  have HA := Lib.hid ha
  have HB := Lib.hid hb
  clear ha hb
  go_enter Tryd.func14, Tryd.ntmps14
  go_wp2_with fail
  go_loopw [5] (fun i wr => ∃ k : Nat, k ≤ l.length ∧ i = .int .i64 k ∧ ∃ n, wr = w.drewN n) (fun i _ => l.length - (intOf i).toNat)
  case atStart => exact ⟨0, Nat.zero_le _, rfl, 0, rfl⟩
  case round =>
    obtain ⟨k, hk, rfl, nq0, rfl⟩ := hrel
    by_cases hlt : k < l.length
    · have hne : l ≠ [] := by intro e; subst e; simp at hlt
      obtain ⟨b1, o1, rfl, h1⟩ := HA.out hne
      obtain ⟨b2, o2, rfl, h2⟩ := HB.out hne
      obtain ⟨c0, c1, c2, c3, c4, c5, c6⟩ := h1 k hlt
      obtain ⟨d0, d1, d2, d3, d4, d5, d6⟩ := h2 k hlt
      clear h1 h2
      generalize l[k] = y at c0 c1 c2 c3 c4 c5 c6 d0 d1 d2 d3 d4 d5 d6
      have hz : (0 : Int) ≤ (k : Int) := by omega
      have hkl : (k : Int) < (l.length : Int) := by omega
      go_wp2_with fail
      go_quiet (fail)
      go_wp2_with fail
      go_roundw
      case rel => exact ⟨k + 1, by omega, by go_num, _, rfl⟩
      case measure => simp [intOf]; omega
    · have hkn : k = l.length := by omega
      subst hkn
      go_wp2_with fail
      go_ret
      exact ⟨rfl, _, rfl⟩
end Go.Proofs.YtoncebfhkoabaaaDoor
