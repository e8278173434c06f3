/- Walk of CopyLib. -/
import Derived.Test.YtcbfaobepmhidaaDoorH1
namespace Go.Proofs.YtcbfaobepmhidaaDoor
open Go.RowKit Go.Extern.Stop Go.Stop Go.Extern

set_option maxHeartbeats 4000000 in
set_option maxRecDepth 100000 in
theorem copyLib_any (A : Option Addr) (cap : Nat) (l : List InsD) (lp : Int) (B : Option Addr) (capB : Nat) (ds : List DoorD) (hb : l.length * 56 ≤ 140737488355328) (hd : ds.length * 48 ≤ 140737488355328) (w : World) (hi : InsSl w A l) (hds : DoorsSl w B ds) :
    Calls Tryd.prog 26 #[.agg #[.slice A l.length cap, .int .i64 lp, .slice B ds.length capB]] w fun e w' => ∃ A' c B' d, e = .returned (.agg #[.slice A' l.length c, .int .i64 lp, .slice B' ds.length d]) ∧ InsSl w' A' l ∧ DoorsSl w' B' ds ∧ Ext w w' := by
  obtain ⟨i0, hi0, hz0, hz1, hz2⟩ := info_parts Tryd.doorInfo
  have HI := Lib.hid hi
  have HD := Lib.hid hds
  have Lds := Lib.hid hds.lt
  have XI := Lib.hid (And.intro hi0 (And.intro hz0 (And.intro hz1 hz2)))
  clear hi hds hi0 hz0 hz1 hz2
  go_enter Tryd.func26, Tryd.ntmps26
  go_wp2_with fail
  have h := copyCode_any A cap l hb _ ((HI.out.ext (ext1 w (.cells #[.slice A l.length cap, .int .i64 lp, .slice B ds.length capB] 57))).ext (ext1 _ (.cells #[.slice none 0 0, .int .i64 0, .slice none 0 0] 57)))
  refine h.mono ?_
  rintro e w1 ⟨A', c, rfl, hi1, hc1, hx⟩
  obtain ⟨w0, hw0⟩ : ∃ w0, w.alloc (.cells #[.slice A l.length cap, .int .i64 lp, .slice B ds.length capB] 57) = w0 := ⟨_, rfl⟩
  have n0 : w0.heap.size = w.heap.size + 1 := by rw [← hw0]; simp
  have X0 : Ext w0 w1 := by rw [← hw0]; exact (ext1 _ _).trans (hx.mono (by simp))
  have XW : Ext w w1 := by have := ext1 w (.cells #[.slice A l.length cap, .int .i64 lp, .slice B ds.length capB] 57); rw [hw0] at this; exact this.trans (X0.mono this.size)
  have hD1 := HD.out.ext XW
  have c0 : w1.cell? ⟨w.heap.size, 0, none⟩ = some (.slice A l.length cap) := by rw [X0.cell (by simp [n0])]; rw [← hw0]; simp
  have c1 : w1.cell? ⟨w.heap.size, 1, none⟩ = some (.int .i64 lp) := by rw [X0.cell (by simp [n0])]; rw [← hw0]; simp
  have c2 : w1.cell? ⟨w.heap.size, 2, none⟩ = some (.slice B ds.length capB) := by rw [X0.cell (by simp [n0])]; rw [← hw0]; simp
  have far0 : ∀ k, 3 ≤ k → w1.cell? ⟨w.heap.size, k, none⟩ = none := by
    intro k hk
    rw [X0.cell (by simp [n0]), ← hw0, World.cell?_alloc_at _ _ _ _ rfl]
    exact Array.getElem?_eq_none (by simpa using hk)
  have z0 : ∀ k, w1.frozen? ⟨w.heap.size, k, none⟩ = false := by intro k; rw [X0.frozen (by simp [n0]), ← hw0]; exact World.frozen?_alloc_at _ _ _ _ rfl
  rw [hw0] at hx
  have d0 : w1.cell? ⟨w0.heap.size, 0, none⟩ = some (.slice none 0 0) := by rw [hx.cell (by simp)]; simp
  have d1 : w1.cell? ⟨w0.heap.size, 1, none⟩ = some (.int .i64 0) := by rw [hx.cell (by simp)]; simp
  have d2 : w1.cell? ⟨w0.heap.size, 2, none⟩ = some (.slice none 0 0) := by rw [hx.cell (by simp)]; simp
  have far1 : ∀ k, 3 ≤ k → w1.cell? ⟨w0.heap.size, k, none⟩ = none := by
    intro k hk
    rw [hx.cell (by simp), World.cell?_alloc_at _ _ _ _ rfl]
    exact Array.getElem?_eq_none (by simpa using hk)
  have zf : ∀ k, w1.frozen? ⟨w0.heap.size, k, none⟩ = false := by
    intro k
    rw [hx.frozen (by simp)]; exact World.frozen?_alloc_at _ _ _ _ rfl
  rw [n0] at d0 d1 d2 far1 zf
  have y0 := z0 0
  have y2 := z0 2
  have v0 := zf 0
  have v1' := zf 1
  have v2 := zf 2
  have hne : l ≠ [] → ∀ a, A' = some a → a.block ≠ w.heap.size ∧ a.block ≠ w.heap.size + 1 := by
    intro hn a ha
    obtain ⟨b, off, e, hi⟩ := hi1 hn
    have h0 : 0 < l.length := by cases l with | nil => exact absurd rfl hn | cons _ _ => simp
    obtain ⟨_, _, _, _, _, _, q6⟩ := hi 0 h0
    rw [e] at ha
    cases ha
    constructor
    · rintro rfl
      rw [far0 _ (by omega)] at q6; cases q6
    · rintro rfl
      rw [far1 _ (by omega)] at q6; cases q6
  have HNE := Lib.hid hne
  have I1 := Lib.hid hi1
  have hlt : w.heap.size + 1 < w1.heap.size := World.block_lt_of_cell? _ _ d0
  have D2 := Lib.hid (hD1.setCell (p := ⟨w.heap.size, 0, none⟩) (fun hn a ha => by have := Lds.out hn a ha; simp; omega) (.slice A' l.length c))
  have X1 := Lib.hid XW
  clear hx hne hi1 zf z0 h X0 far0 far1 n0 hw0 w0 hD1 XW
  generalize hN : ds.length = N at *
  have HN := Lib.hid hN
  clear hN
  obtain ⟨hi0, hz0, hz1, hz2⟩ := XI.out
  go_wp2_with (first
    | (at_builtin
       go_must (refine wpList_append_any _ rfl _ _ _ rfl w1.heap.size 77 i0 _ 6 48 Tryd.underlying55 hi0 hz0 hz1 hz2 rfl (Nat.zero_lt_succ 5) (.slice none 0 0) 0 [] rfl ?hown w1.heap.size B N capB (doorRow ds) rfl ?hr (doorRow_one ds) ?hml ?hby ?hbase ?_
                case hown => exact ⟨by simp, .inl ⟨rfl, rfl⟩⟩
                case hr => have := doorReads_of D2.out; rw [HN.out] at this; simpa using this
                case hml => simp only [maxLen]; omega
                case hby => omega
                case hbase => simp
                intro v1 w2 hown hg _
                have hex : ∃ B' d, v1 = .slice B' N d ∧ (N ≠ 0 → ∀ a, B' = some a → w1.heap.size ≤ a.block) := by
                  obtain ⟨_, ⟨rfl, h0⟩ | ⟨g, cp, cur, rfl, hbg, _, _, _⟩⟩ := hown
                  · have : N = 0 := by omega
                    exact ⟨none, 0, by rw [this], fun h => absurd this h⟩
                  · exact ⟨some ⟨g, 0, none⟩, cp, by rw [Nat.zero_add], fun _ a ha => by cases ha; exact hbg⟩
                obtain ⟨B', d, rfl, hB'⟩ := hex
                have hbw : Below w1.heap.size (w1.setCell ⟨w.heap.size, 0, none⟩ (.slice A' l.length c)) w2 := (Below.refl _ _).grown hg (by simp) (by simp [Value.ownBlock])
                have e0 : w2.cell? ⟨w.heap.size, 0, none⟩ = some (.slice A' l.length c) := (hbw.cell (p := ⟨w.heap.size, 0, none⟩) (by simp; omega)).trans (World.cell?_setCell_same _ _ _ c0)
                have e1 : w2.cell? ⟨w.heap.size, 1, none⟩ = some (.int .i64 lp) := (hbw.cell (p := ⟨w.heap.size, 1, none⟩) (by simp; omega)).trans ((World.cell?_setCell_other _ _ _ _ (by simp)).trans c1)
                have e2 : w2.cell? ⟨w.heap.size, 2, none⟩ = some (.slice B N capB) := (hbw.cell (p := ⟨w.heap.size, 2, none⟩) (by simp; omega)).trans ((World.cell?_setCell_other _ _ _ _ (by simp)).trans c2)
                have f0 : w2.cell? ⟨w.heap.size + 1, 0, none⟩ = some (.slice none 0 0) := (hbw.cell (p := ⟨w.heap.size + 1, 0, none⟩) hlt).trans ((World.cell?_setCell_far _ _ _ _ (by simp)).trans d0)
                have f1 : w2.cell? ⟨w.heap.size + 1, 1, none⟩ = some (.int .i64 0) := (hbw.cell (p := ⟨w.heap.size + 1, 1, none⟩) hlt).trans ((World.cell?_setCell_far _ _ _ _ (by simp)).trans d1)
                have f2 : w2.cell? ⟨w.heap.size + 1, 2, none⟩ = some (.slice none 0 0) := (hbw.cell (p := ⟨w.heap.size + 1, 2, none⟩) hlt).trans ((World.cell?_setCell_far _ _ _ _ (by simp)).trans d2)
                have x2 : w2.frozen? ⟨w.heap.size, 2, none⟩ = false := by rw [hbw.frozen (p := ⟨w.heap.size, 2, none⟩) (by simp; omega), World.frozen?_setCell]; exact y2
                have u0 : w2.frozen? ⟨w.heap.size + 1, 0, none⟩ = false := by rw [hbw.frozen (p := ⟨w.heap.size + 1, 0, none⟩) hlt, World.frozen?_setCell]; exact v0
                have u1 : w2.frozen? ⟨w.heap.size + 1, 1, none⟩ = false := by rw [hbw.frozen (p := ⟨w.heap.size + 1, 1, none⟩) hlt, World.frozen?_setCell]; exact v1'
                have u2 : w2.frozen? ⟨w.heap.size + 1, 2, none⟩ = false := by rw [hbw.frozen (p := ⟨w.heap.size + 1, 2, none⟩) hlt, World.frozen?_setCell]; exact v2
                have OW := Lib.hid hown
                have BW := Lib.hid hbw
                have HB' := Lib.hid hB'
                clear hown hg hbw hB' c0 c1 c2 d0 d1 d2 y0 y2 v0 v1' v2)))
  refine bodyPost_ret (v := .agg #[.slice A' l.length c, .int .i64 lp, .slice B' N d]) ?_ rfl ⟨A', c, B', d, by rw [HN.out], ?_, ?_, ?_⟩
  · rw [results_cell rfl]
    go_simp
  · have h1 : InsSl w2 A' l := (I1.out.setCell (p := ⟨w.heap.size, 0, none⟩) (fun hn a ha => (HNE.out hn a ha).1) (.slice A' l.length c)).ext (BW.out.mono (by simp))
    refine InsSl.setCell (InsSl.setCell (InsSl.setCell (InsSl.setCell h1 ?_ _) ?_ _) ?_ _) ?_ _ <;> (intro hn a ha; first | exact (HNE.out hn a ha).1 | exact (HNE.out hn a ha).2)
  · have hO := OW.out
    rw [← HN.out, Nat.zero_add, List.nil_append] at hO
    have h1 : DoorsSl w2 B' ds := doorsSl_own hO
    have hb' : ∀ q : Addr, q.block < w1.heap.size → ds ≠ [] → ∀ a, B' = some a → a.block ≠ q.block := by
      intro q hq hn a ha
      have := HB'.out (by rw [← HN.out]; intro h; exact hn (List.eq_nil_of_length_eq_zero h)) a ha
      omega
    refine DoorsSl.setCell (DoorsSl.setCell (DoorsSl.setCell (DoorsSl.setCell h1 ?_ _) ?_ _) ?_ _) ?_ _ <;> exact hb' _ (by simp; omega)
  · have h1 : Ext w w2 := (X1.out.setCell (p := ⟨w.heap.size, 0, none⟩) (Nat.le_refl _) (.slice A' l.length c)).trans (BW.out.mono (by omega))
    refine Below.setCell (Below.setCell (Below.setCell (Below.setCell h1 ?_ _) ?_ _) ?_ _) ?_ _ <;> simp
end Go.Proofs.YtcbfaobepmhidaaDoor
