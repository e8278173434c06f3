/- Walk of the statements' 'right': an instruction alone in a code of n. -/
import Derived.Test.YtcbfaobepmhidaaDoorC5
import Derived.Laws.MakeOwn
import Derived.Laws.Entries
namespace Go.Proofs.YtcbfaobepmhidaaDoor
open Go.RowKit Go.Extern.Stop Go.Stop Go.Extern

theorem run_make_rowN {P : Program} (t e : TypeId) (i : TypeInfo) (z : Value) (ht : P.underlying t = some (.slice e)) (hi : P.info? e = some i) (hz : i.zero = some z)
    (kl kc : IntKind) (n c : Nat) (hnc : n ≤ c) (hbytes : i.bytes * c ≤ 281474976710656) (h63 : c ≤ 9223372036854775807) (w : World) :
    (Instr.makeSlice t (.int kl (n : Int)) (.int kc (c : Int))).run P w = .ok (.slice (some ⟨w.heap.size, 0, none⟩) n c) (w.alloc (.cells (madeCells z.cells (c * i.size)) e)) := by
  have hb : (i.bytes : Int) * (c : Int) ≤ 281474976710656 := by
    have h : ((i.bytes * c : Nat) : Int) ≤ 281474976710656 := by omega
    rwa [Int.natCast_mul] at h
  have hr := run_make (P := P) w t e i z ht hi hz kl kc n c (by omega) (by omega) hb (by omega)
  simp only [Int.toNat_natCast] at hr
  exact hr

/-- The n rows of block g are there and may be written; the first k hold x. -/
def Rows7 (w : World) (g n k : Nat) (x : InsD) : Prop :=
  (∀ o, o < n * 7 → (∃ v, w.cell? ⟨g, o, none⟩ = some v) ∧ w.frozen? ⟨g, o, none⟩ = false) ∧
  ∀ i, i < k → w.cell? ⟨g, i * 7, none⟩ = some (.int .i64 x.op) ∧ w.cell? ⟨g, i * 7 + 1, none⟩ = some (.int .i64 x.a) ∧ w.cell? ⟨g, i * 7 + 2, none⟩ = some (.int .i64 x.b) ∧ w.cell? ⟨g, i * 7 + 3, none⟩ = some (.int .i64 x.c) ∧ w.cell? ⟨g, i * 7 + 4, none⟩ = some (.int .u64 x.v) ∧ w.cell? ⟨g, i * 7 + 5, none⟩ = some (.int .i64 x.m) ∧ w.cell? ⟨g, i * 7 + 6, none⟩ = some (.int .i64 x.wh)

theorem cell_set {w : World} {g o : Nat} {u v : Value} (h : w.cell? ⟨g, o, none⟩ = some u) (o' : Nat) : (w.setCell ⟨g, o, none⟩ v).cell? ⟨g, o', none⟩ = if o' = o then some v else w.cell? ⟨g, o', none⟩ := by
  by_cases e : o' = o
  · subst e; rw [if_pos rfl]; exact World.cell?_setCell_same _ _ _ h
  · rw [if_neg e]; exact World.cell?_setCell_other _ _ _ _ (by intro h; cases h; exact e rfl)

abbrev put7 (w : World) (g o : Nat) (x : InsD) : World :=
  ((((((w.setCell ⟨g, o, none⟩ (.int .i64 x.op)).setCell ⟨g, o + 1, none⟩ (.int .i64 x.a)).setCell ⟨g, o + 2, none⟩ (.int .i64 x.b)).setCell ⟨g, o + 3, none⟩ (.int .i64 x.c)).setCell ⟨g, o + 4, none⟩ (.int .u64 x.v)).setCell ⟨g, o + 5, none⟩ (.int .i64 x.m)).setCell ⟨g, o + 6, none⟩ (.int .i64 x.wh)

theorem put7_cell {w : World} {g o : Nat} {x : InsD} (h : ∀ j, j < 7 → ∃ v, w.cell? ⟨g, o + j, none⟩ = some v) (o' : Nat) :
    (put7 w g o x).cell? ⟨g, o', none⟩ = if o' = o + 6 then some (.int .i64 x.wh) else if o' = o + 5 then some (.int .i64 x.m) else if o' = o + 4 then some (.int .u64 x.v) else if o' = o + 3 then some (.int .i64 x.c) else if o' = o + 2 then some (.int .i64 x.b) else if o' = o + 1 then some (.int .i64 x.a) else if o' = o then some (.int .i64 x.op) else w.cell? ⟨g, o', none⟩ := by
  obtain ⟨v0, h0⟩ := h 0 (by omega)
  rw [Nat.add_zero] at h0
  obtain ⟨v1, h1⟩ := h 1 (by omega)
  obtain ⟨v2, h2⟩ := h 2 (by omega)
  obtain ⟨v3, h3⟩ := h 3 (by omega)
  obtain ⟨v4, h4⟩ := h 4 (by omega)
  obtain ⟨v5, h5⟩ := h 5 (by omega)
  obtain ⟨v6, h6⟩ := h 6 (by omega)
  have e1 := cell_set (v := .int .i64 x.op) h0
  have g1 : (w.setCell ⟨g, o, none⟩ (.int .i64 x.op)).cell? ⟨g, o + 1, none⟩ = some v1 := by rw [e1, if_neg (by omega)]; exact h1
  have e2 := cell_set (v := .int .i64 x.a) g1
  have g2 : ((w.setCell ⟨g, o, none⟩ (.int .i64 x.op)).setCell ⟨g, o + 1, none⟩ (.int .i64 x.a)).cell? ⟨g, o + 2, none⟩ = some v2 := by rw [e2, if_neg (by omega), e1, if_neg (by omega)]; exact h2
  have e3 := cell_set (v := .int .i64 x.b) g2
  have g3 : (((w.setCell ⟨g, o, none⟩ (.int .i64 x.op)).setCell ⟨g, o + 1, none⟩ (.int .i64 x.a)).setCell ⟨g, o + 2, none⟩ (.int .i64 x.b)).cell? ⟨g, o + 3, none⟩ = some v3 := by rw [e3, if_neg (by omega), e2, if_neg (by omega), e1, if_neg (by omega)]; exact h3
  have e4 := cell_set (v := .int .i64 x.c) g3
  have g4 : ((((w.setCell ⟨g, o, none⟩ (.int .i64 x.op)).setCell ⟨g, o + 1, none⟩ (.int .i64 x.a)).setCell ⟨g, o + 2, none⟩ (.int .i64 x.b)).setCell ⟨g, o + 3, none⟩ (.int .i64 x.c)).cell? ⟨g, o + 4, none⟩ = some v4 := by rw [e4, if_neg (by omega), e3, if_neg (by omega), e2, if_neg (by omega), e1, if_neg (by omega)]; exact h4
  have e5 := cell_set (v := .int .u64 x.v) g4
  have g5 : (((((w.setCell ⟨g, o, none⟩ (.int .i64 x.op)).setCell ⟨g, o + 1, none⟩ (.int .i64 x.a)).setCell ⟨g, o + 2, none⟩ (.int .i64 x.b)).setCell ⟨g, o + 3, none⟩ (.int .i64 x.c)).setCell ⟨g, o + 4, none⟩ (.int .u64 x.v)).cell? ⟨g, o + 5, none⟩ = some v5 := by rw [e5, if_neg (by omega), e4, if_neg (by omega), e3, if_neg (by omega), e2, if_neg (by omega), e1, if_neg (by omega)]; exact h5
  have e6 := cell_set (v := .int .i64 x.m) g5
  have g6 : ((((((w.setCell ⟨g, o, none⟩ (.int .i64 x.op)).setCell ⟨g, o + 1, none⟩ (.int .i64 x.a)).setCell ⟨g, o + 2, none⟩ (.int .i64 x.b)).setCell ⟨g, o + 3, none⟩ (.int .i64 x.c)).setCell ⟨g, o + 4, none⟩ (.int .u64 x.v)).setCell ⟨g, o + 5, none⟩ (.int .i64 x.m)).cell? ⟨g, o + 6, none⟩ = some v6 := by rw [e6, if_neg (by omega), e5, if_neg (by omega), e4, if_neg (by omega), e3, if_neg (by omega), e2, if_neg (by omega), e1, if_neg (by omega)]; exact h6
  rw [put7, cell_set (v := .int .i64 x.wh) g6, e6, e5, e4, e3, e2, e1]

theorem Rows7.put {w : World} {g n k : Nat} {x : InsD} (h : Rows7 w g n k x) (hk : k < n) : Rows7 (put7 w g (k * 7) x) g n (k + 1) x := by
  have hc := put7_cell (x := x) (w := w) (g := g) (o := k * 7) (fun j hj => (h.1 (k * 7 + j) (by omega)).1)
  refine ⟨fun o ho => ⟨?_, ?_⟩, fun i hi => ?_⟩
  · rw [hc]
    obtain ⟨⟨v, hv⟩, _⟩ := h.1 o ho
    repeat' split
    all_goals first | exact ⟨_, rfl⟩ | exact ⟨v, hv⟩
  · simp only [put7, World.frozen?_setCell]
    exact (h.1 o ho).2
  · by_cases e : i = k
    · subst e
      refine ⟨?_, ?_, ?_, ?_, ?_, ?_, ?_⟩ <;> rw [hc]
      · rw [if_neg (by omega), if_neg (by omega), if_neg (by omega), if_neg (by omega), if_neg (by omega), if_neg (by omega), if_pos rfl]
      · rw [if_neg (by omega), if_neg (by omega), if_neg (by omega), if_neg (by omega), if_neg (by omega), if_pos rfl]
      · rw [if_neg (by omega), if_neg (by omega), if_neg (by omega), if_neg (by omega), if_pos rfl]
      · rw [if_neg (by omega), if_neg (by omega), if_neg (by omega), if_pos rfl]
      · rw [if_neg (by omega), if_neg (by omega), if_pos rfl]
      · rw [if_neg (by omega), if_pos rfl]
      · rw [if_pos rfl]
    · obtain ⟨c0, c1, c2, c3, c4, c5, c6⟩ := h.2 i (by omega)
      refine ⟨?_, ?_, ?_, ?_, ?_, ?_, ?_⟩ <;> rw [hc] <;> (rw [if_neg (by omega), if_neg (by omega), if_neg (by omega), if_neg (by omega), if_neg (by omega), if_neg (by omega), if_neg (by omega)]; assumption)

theorem Rows7.insAt {w : World} {g n : Nat} {x : InsD} (h : Rows7 w g n n x) : InsAt w g 0 (List.replicate n x) := by
  intro i hi
  rw [List.length_replicate] at hi
  simpa using h.2 i hi
theorem firstBad_replicate (p : InsD → Bool) (x : InsD) : ∀ n k, firstBad p (List.replicate n x) k = if n = 0 then none else if p x then none else some k
  | 0, k => rfl
  | n + 1, k => by
    simp only [List.replicate_succ, firstBad]
    rw [firstBad_replicate p x n (k + 1)]
    cases h : p x <;> simp

set_option maxHeartbeats 2000000 in
theorem alone_any (x : InsD) (n : Nat) (lib : Bool) (h1 : 1 ≤ n) (h2 : n ≤ 2000) (w : World) :
    Calls Tryd.prog 19 #[insV x, .int .i64 n, .bool lib] w fun e w' => e = .returned (.bool (mayF x n lib)) ∧ Ext w w' := by
  obtain ⟨i0, hi0, hz0, hz1, hz2⟩ := info_parts Tryd.insInfo
  have hmk := fun W => run_make_rowN (P := Tryd.prog) 22 42 i0 _ Tryd.underlying22 hi0 hz0 .i64 .i64 n n (Nat.le_refl _) (by rw [hz2]; omega) (by omega) W
  rw [hz1] at hmk
  clear hi0 hz0 hz1 hz2
  have hcl : checkF (List.replicate n x) (fun y => mayF y (List.replicate n x).length lib) = if mayF x n lib then none else some ([(codeS, 0)], 5) := by
    unfold checkF
    rw [if_neg (by simp; omega), firstBad_replicate, if_neg (by omega)]
    simp only [List.length_replicate]
    cases mayF x n lib <;> rfl
  have HC := Lib.hid hcl
  clear hcl
  go_enter Tryd.func19, Tryd.ntmps19
  go_wp2_with fail
  go_loopw [8] (fun i wr => ∃ k : Nat, k ≤ n ∧ i = .int .i64 k ∧ Below (w.heap.size + 1) (w.alloc (.cells #[.int .i64 x.op, .int .i64 x.a, .int .i64 x.b, .int .i64 x.c, .int .u64 x.v, .int .i64 x.m, .int .i64 x.wh] 42)) wr ∧ Rows7 wr (w.heap.size + 1) n k x ∧ w.heap.size + 1 < wr.heap.size) (fun i _ => n - (intOf i).toNat)
  case atStart =>
    refine ⟨0, Nat.zero_le _, rfl, (Below.refl _ _).alloc (by simp) _, ⟨fun o ho => ⟨?_, ?_⟩, fun i hi => by omega⟩, by simp⟩
    · rw [World.cell?_alloc_at _ _ _ _ (by simp)]
      exact ⟨_, Array.getElem?_eq_getElem (by rw [size_madeCells]; exact ho)⟩
    · rw [World.frozen?_alloc_at _ _ _ _ (by simp)]
  case round =>
    obtain ⟨k, hk, rfl, hB, hR, hz⟩ := hrel
    by_cases hlt : k < n
    · have hz0 : (0 : Int) ≤ (k : Int) := by omega
      have hkn : (k : Int) < (n : Int) := by omega
      have b0 : wr.cell? ⟨w.heap.size, 0, none⟩ = some (.int .i64 x.op) := by rw [hB.cell (p := ⟨w.heap.size, 0, none⟩) (by simp)]; simp
      have b1 : wr.cell? ⟨w.heap.size, 1, none⟩ = some (.int .i64 x.a) := by rw [hB.cell (p := ⟨w.heap.size, 1, none⟩) (by simp)]; simp
      have b2 : wr.cell? ⟨w.heap.size, 2, none⟩ = some (.int .i64 x.b) := by rw [hB.cell (p := ⟨w.heap.size, 2, none⟩) (by simp)]; simp
      have b3 : wr.cell? ⟨w.heap.size, 3, none⟩ = some (.int .i64 x.c) := by rw [hB.cell (p := ⟨w.heap.size, 3, none⟩) (by simp)]; simp
      have b4 : wr.cell? ⟨w.heap.size, 4, none⟩ = some (.int .u64 x.v) := by rw [hB.cell (p := ⟨w.heap.size, 4, none⟩) (by simp)]; simp
      have b5 : wr.cell? ⟨w.heap.size, 5, none⟩ = some (.int .i64 x.m) := by rw [hB.cell (p := ⟨w.heap.size, 5, none⟩) (by simp)]; simp
      have b6 : wr.cell? ⟨w.heap.size, 6, none⟩ = some (.int .i64 x.wh) := by rw [hB.cell (p := ⟨w.heap.size, 6, none⟩) (by simp)]; simp
      obtain ⟨⟨u100, s0⟩, z0⟩ := hR.1 (k * 7) (by omega)
      obtain ⟨⟨u101, s1⟩, z1⟩ := hR.1 (k * 7 + 1) (by omega)
      obtain ⟨⟨u102, s2⟩, z2⟩ := hR.1 (k * 7 + 2) (by omega)
      obtain ⟨⟨u103, s3⟩, z3⟩ := hR.1 (k * 7 + 3) (by omega)
      obtain ⟨⟨u104, s4⟩, z4⟩ := hR.1 (k * 7 + 4) (by omega)
      obtain ⟨⟨u105, s5⟩, z5⟩ := hR.1 (k * 7 + 5) (by omega)
      obtain ⟨⟨u106, s6⟩, z6⟩ := hR.1 (k * 7 + 6) (by omega)
      have HB := Lib.hid hB
      have HR := Lib.hid (hR.put hlt)
      clear hB hR
      go_wp2_with fail
      go_roundw
      case rel => exact ⟨k + 1, by omega, by go_num, HB.out.setCell (by simp) _ |>.setCell (by simp) _ |>.setCell (by simp) _ |>.setCell (by simp) _ |>.setCell (by simp) _ |>.setCell (by simp) _ |>.setCell (by simp) _, HR.out, by simp; omega⟩
      case measure => simp [intOf]; omega
    · have hkn : k = n := by omega
      subst hkn
      have HI := Lib.hid hR.insAt
      have HX := Lib.hid (show Ext w wr from (ext1 w _).trans (hB.mono (by omega)))
      clear hB hR
      go_wp2_with fail
      refine (show Calls Tryd.prog 13 #[.slice (some ⟨w.heap.size + 1, 0, none⟩) k k, .bool lib] wr (CheckPost wr (if mayF x k lib then none else some ([(codeS, 0)], 5))) from by
        have h := check_any (w.heap.size + 1) 0 k (List.replicate k x) lib (by simp; omega) wr HI.out
        rw [HC.out, List.length_replicate] at h
        exact h).mono ?_
      rintro e w1 ⟨v, rfl, hv, hx⟩
      have HX1 := Lib.hid (HX.out.trans (hx.mono HX.out.size))
      clear hx
      cases hm : mayF x k lib
      · rw [hm] at hv
        obtain ⟨c, rfl, _⟩ := hv
        go_wp2_with fail
        go_ret
        exact ⟨by rw [hm]; rfl, HX1.out⟩
      · rw [hm] at hv
        obtain rfl : v = .nilIface := hv
        go_wp2_with fail
        go_ret
        exact ⟨by rw [hm]; rfl, HX1.out⟩
end Go.Proofs.YtcbfaobepmhidaaDoor
