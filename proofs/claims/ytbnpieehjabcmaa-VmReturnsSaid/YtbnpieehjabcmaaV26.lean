/- Words for codes that the statements put together; vm.jump at a call within calls. -/
import Derived.Test.YtbnpieehjabcmaaV21
import Derived.Test.YtbnpieehjabcmaaL1
namespace Go.Proofs.Ytbnpieehjabcmaa
open Go.RowKit

/-- The slice '.slice A l.length c' holds the instructions l (of an empty one nothing is asked). -/
def InsSl (w : World) (A : Option Addr) (l : List InsD) : Prop := l ≠ [] → ∃ b off, A = some ⟨b, off, none⟩ ∧ InsAt w b off l
theorem InsSl.ext {w w' : World} {A : Option Addr} {l : List InsD} (h : InsSl w A l) (hx : Ext w w') : InsSl w' A l := fun hn => by
  obtain ⟨b, off, e, hi⟩ := h hn
  exact ⟨b, off, e, hi.ext hx⟩

def InsD.row (x : InsD) : List Value := [.int .i64 x.op, .int .i64 x.a, .int .i64 x.b, .int .i64 x.c, .int .u64 x.v, .int .i64 x.m, .int .i64 x.wh]
def insRow (l : List InsD) : List Value := l.flatMap InsD.row
theorem insRow_length (l : List InsD) : (insRow l).length = l.length * 7 := by
  induction l with
  | nil => rfl
  | cons x r ih => simp only [insRow, List.flatMap_cons, List.length_append, List.length_cons] at *; rw [ih]; simp [InsD.row]; omega
theorem insRow_at (l : List InsD) (i j : Nat) (hi : i < l.length) (hj : j < 7) : (insRow l)[i * 7 + j]? = (l[i].row)[j]? := by
  induction l generalizing i with
  | nil => simp at hi
  | cons x r ih =>
    have hx : x.row.length = 7 := rfl
    simp only [insRow, List.flatMap_cons]
    cases i with
    | zero => rw [List.getElem?_append_left (by omega)]; simp
    | succ i =>
      rw [List.getElem?_append_right (by omega), hx, show (i + 1) * 7 + j - 7 = i * 7 + j by omega]
      simp only [List.length_cons] at hi
      rw [show (List.flatMap InsD.row r) = insRow r from rfl, ih i (by omega)]
      simp
theorem insAt_of {w : World} {b off : Nat} {l : List InsD} (h : ∀ j u, (insRow l)[j]? = some u → w.cell? ⟨b, off + j, none⟩ = some u) : InsAt w b off l := by
  intro i hi
  refine ⟨?_, ?_, ?_, ?_, ?_, ?_, ?_⟩
  · exact h (i * 7 + 0) _ (by rw [insRow_at l i 0 hi (by omega)]; rfl)
  · exact h (i * 7 + 1) _ (by rw [insRow_at l i 1 hi (by omega)]; rfl)
  · exact h (i * 7 + 2) _ (by rw [insRow_at l i 2 hi (by omega)]; rfl)
  · exact h (i * 7 + 3) _ (by rw [insRow_at l i 3 hi (by omega)]; rfl)
  · exact h (i * 7 + 4) _ (by rw [insRow_at l i 4 hi (by omega)]; rfl)
  · exact h (i * 7 + 5) _ (by rw [insRow_at l i 5 hi (by omega)]; rfl)
  · exact h (i * 7 + 6) _ (by rw [insRow_at l i 6 hi (by omega)]; rfl)
theorem insAt_cell {w : World} {b off : Nat} {l : List InsD} (h : InsAt w b off l) (j : Nat) (u : Value) (hj : (insRow l)[j]? = some u) : w.cell? ⟨b, off + j, none⟩ = some u := by
  have hlt : j < l.length * 7 := by
    rw [← insRow_length]
    exact (List.getElem?_eq_some_iff.1 hj).1
  have hi : j / 7 < l.length := by omega
  obtain ⟨c0, c1, c2, c3, c4, c5, c6⟩ := h (j / 7) hi
  have hk : j % 7 < 7 := Nat.mod_lt _ (by omega)
  have e : j = j / 7 * 7 + j % 7 := by omega
  rw [e, insRow_at l _ _ hi hk] at hj
  rw [e]
  generalize j % 7 = k at *
  match k, hk with
  | 0, _ => rw [← hj]; exact c0
  | 1, _ => rw [← hj]; exact c1
  | 2, _ => rw [← hj]; exact c2
  | 3, _ => rw [← hj]; exact c3
  | 4, _ => rw [← hj]; exact c4
  | 5, _ => rw [← hj]; exact c5
  | 6, _ => rw [← hj]; exact c6
theorem insRow_one (l : List InsD) : ∀ u ∈ insRow l, u.oneCell' = true := by
  intro u hu
  obtain ⟨x, _, hx⟩ := List.mem_flatMap.1 hu
  simp only [InsD.row, List.mem_cons, List.not_mem_nil, or_false] at hx
  rcases hx with rfl | rfl | rfl | rfl | rfl | rfl | rfl <;> rfl
theorem insSl_own {w : World} {base c : Nat} {A : Option Addr} {l : List InsD} (h : w.ownsRow base 24 7 (.slice A l.length c) l.length (insRow l)) : InsSl w A l := by
  intro hn
  have hr := Reads.of_own h
  have h0 : 0 < l.length := by cases l with | nil => exact absurd rfl hn | cons _ _ => simp
  obtain ⟨g, cap, hv, _, hlt⟩ := h.form h0
  have hA : A = some ⟨g, 0, none⟩ := by injection hv
  subst hA
  refine ⟨g, 0, rfl, insAt_of fun j u hj => ?_⟩
  have hx := h.cells (g := g) rfl j u hj
  unfold Addr.add at hx
  by_cases hj0 : j = 0
  · subst hj0; simpa using hx
  · rw [if_neg hj0] at hx; exact hx

theorem Try.insInfo : (Try.prog.info? 24).map (fun i => (i.zero, i.size, i.bytes)) = some (some (.agg #[.int .i64 0, .int .i64 0, .int .i64 0, .int .i64 0, .int .u64 0, .int .i64 0, .int .i64 0]), 7, 56) := by kernel_rfl


section
variable (b o : Nat) (pc : Int) (r : List Int) (A : Option Addr) (n cap : Nat) (x1 x2 x3 v m wh : Int) (w : World)
set_option maxRecDepth 100000 in
theorem jump_jsr2 (bk : List Int) (hF : FrAt w b o pc r A bk.length cap) (hB : BackIs w A bk) (h0 : 0 ≤ v) (h1 : v ≤ 1000000000000) (hn8 : bk.length < 8) (hp0 : 0 ≤ pc) (hp1 : pc ≤ 1000000000000) (hcap : bk.length ≤ cap) :
    Calls Try.prog 22 #[.pointer (some ⟨b, o, none⟩), insA 15 x1 x2 x3 v m wh] w fun e w' => e = .returned (.int .i64 0) ∧ ∃ A' cap', FrAt w' b o v r A' (bk.length + 1) cap' ∧ BackIs w' A' (bk ++ [pc + 1]) ∧ bk.length + 1 ≤ cap' ∧ (∀ a, A' = some a → a.block ≠ b) ∧ Upto (· = b) w w' := by
  have F := Lib.hid hF
  have h2 := hF.back
  have hz := hF.fz0
  have h0' := hF.pc
  have hlt := hF.lt
  clear hF
  obtain ⟨i0, hi0, hz0, hz1, hz2⟩ := info_parts Try.intInfo
  have hz33 := F.out.fz 33 (by omega)
  have hw1 : IntKind.i64.wrap (pc + 1) = pc + 1 := IntWalk.i64_in _ (by omega)
  have HC := Lib.hid (show ∀ W, Ext w W → ∀ a, A = some a → ∀ j u, (bk.map (Value.int .i64))[j]? = some u → W.cell? (a.add j) = some u from fun W hx a ha j u hj => back_cells hB hx a ha j u hj)
  have HNo := Lib.hid (show A = none → bk.length = 0 ∧ bk.length = 0 from fun ha => by
    by_cases e : bk = []
    · subst e; exact ⟨rfl, rfl⟩
    · obtain ⟨_, _, h, _⟩ := hB e; rw [ha] at h; cases h)
  clear hB
  generalize hnn : bk.length = n at *
  have HN := Lib.hid hnn
  clear hnn
  go_enter Try.func22, Try.ntmps22
  go_wp2_with fail
  go_region_law (refine step_append_grows rfl (.tmp 51) (.tmp 57) 33 rfl 3 i0 (.int .i64 0) 1 8 Try.underlying33 hi0 hz0 hz1 hz2 rfl (by decide) A n n (bk.map (Value.int .i64)) ?_ HNo.out ?_ ?_ ⟨w.heap.size + 1, 0, none⟩ 1 1 [.int .i64 (pc + 1)] ?_ rfl ?_ ?_ ?_ ?_ ?_ ?_
                 · first | rfl | (simp [Act.eval]; done) | (simp [Act.eval, Act.put]; done)
                 · simp [HN.out]
                 · exact HC.out _ ((ext1 w _).alloc (by simp) _).drew
                 · first | rfl | (simp [Act.eval]; done) | (simp [Act.eval, Act.put]; done)
                 · exact news_one (by simp)
                 · simp [Value.oneCell']
                 · omega
                 · unfold maxLen; omega
                 · omega
                 intro v1 w1 own1 gr1
                 obtain ⟨g, cap1, rfl, hcap1, hlt1⟩ := own1.form (Nat.succ_pos n)
                 have hx1 : Ext w w1 := (((ext1 w _).alloc (by simp) _).drew).grown gr1 (by simp; omega) (fun k h => by cases h)
                 have k0 : w1.cell? ⟨b, o, none⟩ = some (.int .i64 pc) := (hx1.cell (p := ⟨b, o, none⟩) hlt).trans h0'
                 have k33 : w1.cell? ⟨b, o + 33, none⟩ = some (.slice A n cap) := (hx1.cell (p := ⟨b, o + 33, none⟩) hlt).trans h2
                 have z0 : w1.frozen? ⟨b, o, none⟩ = false := (hx1.frozen (p := ⟨b, o, none⟩) hlt).trans hz
                 have z33 : w1.frozen? ⟨b, o + 33, none⟩ = false := (hx1.frozen (p := ⟨b, o + 33, none⟩) hlt).trans hz33
                 have c4 : w1.cell? ⟨w.heap.size, 4, none⟩ = some (.int .u64 v) := by rw [gr1.cell_far _ (by simp; omega) (by simp)]; simp
                 have hbg : b ≠ g := by simp at hcap1; omega
                 have hcp := own_cap own1
                 have X1 := Lib.hid hx1
                 have O1 := Lib.hid own1
                 clear hx1 own1 gr1)
  all_goals
    go_wp2_with fail
    go_ret
    exact ⟨rfl, some ⟨g, 0, none⟩, cap1, (((F.out.ext X1.out).setBack _ _ _).setPc _), back_own O1.out HN.out (p := ⟨b, _, none⟩) (q := ⟨b, _, none⟩) hbg hbg _ _, hcp, (fun a ha => by injection ha with ha; subst ha; exact Ne.symm hbg), ((Upto.of_ext X1.out).setB _ _).setB _ _⟩
end
theorem jumpB_jsr (b o : Nat) (pc : Int) (r bk : List Int) (x1 x2 x3 v m wh : Int) (W : World) (hF : FrB (· = b) W b o pc r bk) (h0 : 0 ≤ v) (h1 : v ≤ 1000000000000) (hn8 : bk.length < 8) (hp0 : 0 ≤ pc) (hp1 : pc ≤ 1000000000000) :
    Calls Try.prog 22 #[.pointer (some ⟨b, o, none⟩), insA 15 x1 x2 x3 v m wh] W fun e w' => e = .returned (.int .i64 0) ∧ FrB (· = b) w' b o v r (bk ++ [pc + 1]) ∧ Upto (· = b) W w' := by
  obtain ⟨A, cap, hFr, hB, hc, hM⟩ := hF
  refine (jump_jsr2 b o pc r A cap x1 x2 x3 v m wh W bk hFr hB h0 h1 hn8 hp0 hp1 hc).mono ?_
  rintro e w' ⟨rfl, A', cap', h2, h3, h4, h5, h6⟩
  exact ⟨rfl, ⟨A', cap', by simpa using h2, h3, by simpa using h4, fun _ a ha => h5 a ha⟩, h6⟩
theorem jumpB_full (b o : Nat) (pc : Int) (r bk : List Int) (x1 x2 x3 v m wh : Int) (W : World) (hF : FrB (· = b) W b o pc r bk) (h8 : 8 ≤ bk.length) (h9 : bk.length ≤ 1000) :
    Calls Try.prog 22 #[.pointer (some ⟨b, o, none⟩), insA 15 x1 x2 x3 v m wh] W fun e w' => e = .returned (.int .i64 3) ∧ FrB (· = b) w' b o pc r bk ∧ Upto (· = b) W w' := by
  have hF' := hF
  obtain ⟨A, cap, hFr, hB, hc, hM⟩ := hF
  refine (jump_jsr_full b o pc r A bk.length cap x1 x2 x3 v m wh W hFr h9 h8).mono ?_
  rintro e w' ⟨rfl, h2⟩
  exact ⟨rfl, hF'.ext h2, Upto.of_ext h2⟩
theorem jumpB_ret (b o : Nat) (pc u : Int) (r bk : List Int) (x1 x2 x3 v m wh : Int) (W : World) (hF : FrB (· = b) W b o pc r (bk ++ [u])) (h9 : bk.length < 1000) :
    Calls Try.prog 22 #[.pointer (some ⟨b, o, none⟩), insA 16 x1 x2 x3 v m wh] W fun e w' => e = .returned (.int .i64 0) ∧ FrB (· = b) w' b o u r bk ∧ Upto (· = b) W w' := by
  obtain ⟨A, cap, hFr, hB, hc, hM⟩ := hF
  have hne : bk ++ [u] ≠ [] := by simp
  obtain ⟨bb, bo, rfl, hcell⟩ := hB hne
  have hu := hcell bk.length (by simp)
  have e1 : (bk ++ [u]).getD bk.length 0 = u := by simp [List.getD_eq_getElem?_getD]
  rw [e1] at hu
  have hl : (bk ++ [u]).length = bk.length + 1 := by simp
  rw [hl] at hFr hc
  refine (jump_ret b o pc r cap x1 x2 x3 v m wh W bb bo bk.length u h9 hFr hc hu).mono ?_
  rintro e w' ⟨rfl, h2, h3⟩
  refine ⟨rfl, ⟨some ⟨bb, bo, none⟩, cap, h2, fun hn => ⟨bb, bo, rfl, fun i hi => ?_⟩, by omega, fun _ => hM hne⟩, h3⟩
  have h4 := hcell i (by simp; omega)
  have e2 : (bk ++ [u]).getD i 0 = bk.getD i 0 := by rw [List.getD_eq_getElem?_getD, List.getElem?_append_left hi, List.getD_eq_getElem?_getD]
  rw [e2] at h4
  exact (h3.cell (p := ⟨bb, bo + i, none⟩) (World.block_lt_of_cell? _ _ h4) (hM hne ⟨bb, bo, none⟩ rfl)).trans h4
end Go.Proofs.Ytbnpieehjabcmaa
