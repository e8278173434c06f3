/- Walk of distaffkeep.Same: an error that is what the document says, and the cases with nil. -/
import Derived.Test.YtoncebfhkoabaaaDoorB4
import Derived.BigQuiet
import Derived.Deep.QuietTactic
import Derived.Deep.DeepCutAuto
import Derived.Deep.RegionHeld3
import Derived.Deep.DeepMust
namespace Go.Proofs.YtoncebfhkoabaaaDoor
open Go.RowKit Go.Extern.Stop Go.Stop Go.Extern

/-- A '*Fail' in the world W. -/
def FailAt (W : World) (b : Nat) (ls : List (ByteArray × Int)) (k : Int) : Prop :=
  ∃ bl bp cl cp : Nat, W.cell? ⟨b, 0, none⟩ = some (.slice (some ⟨bl, 0, none⟩) ls.length cl) ∧ W.cell? ⟨b, 1, none⟩ = some (.slice (some ⟨bp, 0, none⟩) ls.length cp) ∧ W.cell? ⟨b, 2, none⟩ = some (.int .i64 k) ∧
    (∀ i, i < ls.length → W.cell? ⟨bl, i, none⟩ = some (.string (ls.getD i default).1)) ∧ (∀ i, i < ls.length → W.cell? ⟨bp, i, none⟩ = some (.int .i64 (ls.getD i default).2))

theorem Chain.keep {W W' : World} (hk : ∀ a v, W.cell? a = some v → W'.cell? a = some v) {E : Value} {l : List (ByteArray × Int)} {k : Int} (h : Chain W E l k) : Chain W' E l k := by
  induction h with
  | leaf k => exact .leaf k
  | at_ b l n E ls k h0 h1 h2 _ ih => exact .at_ b l n E ls k (hk _ _ h0) (hk _ _ h1) (hk _ _ h2) ih
theorem Chain.ifc {W : World} {E : Value} {l : List (ByteArray × Int)} {k : Int} (h : Chain W E l k) : ∃ u v, E = .iface u v := by cases h <;> exact ⟨_, _, rfl⟩
theorem Below.chain {W W' : World} (hb : Below W.heap.size W W') {E : Value} {l : List (ByteArray × Int)} {k : Int} (h : Chain W E l k) : Chain W' E l k :=
  h.keep fun a v hc => by rw [hb.cell (World.block_lt_of_cell? _ _ hc)]; exact hc
theorem Chain.drewN {W : World} (n : Nat) {E : Value} {l : List (ByteArray × Int)} {k : Int} (h : Chain W E l k) : Chain (W.drewN n) E l k := h.keep fun a v hc => by simpa using hc

theorem same_nil_nil (w : World) : Calls Tryd.prog 12 #[.nilIface, .pointer none] w fun e w' => e = .returned (.bool true) ∧ w = w' := by
  go_enter Tryd.func12, Tryd.ntmps12
  go_wp2_with fail
  go_ret
  exact ⟨rfl, rfl⟩
theorem same_err_nil (u : TypeId) (v : Value) (w : World) : Calls Tryd.prog 12 #[.iface u v, .pointer none] w fun e w' => e = .returned (.bool false) ∧ w = w' := by
  go_enter Tryd.func12, Tryd.ntmps12
  go_wp2_with fail
  go_ret
  exact ⟨rfl, rfl⟩
theorem same_nil_fail (b : Nat) (w : World) : Calls Tryd.prog 12 #[.nilIface, .pointer (some ⟨b, 0, none⟩)] w fun e w' => e = .returned (.bool false) ∧ ∃ n, w' = w.drewN n := by
  go_enter Tryd.func12, Tryd.ntmps12
  go_wp2_with fail
  go_quiet (fail)
  go_wp2_with fail
  go_ret
  exact ⟨rfl, _, rfl⟩
/-- A region that draws its order, from operation k on: the rest only reads: one walk in the order of the text. -/
theorem wpAny_tail {P : Program} {ops : Array Oper} {Q : Exit → Act → World → Prop} {listed : Array Bool} {a : Act} {w : World} (k : Nat) (w1 : World) (hw : ∃ n, w = w1.drewN n) (hs : Region.noSelect ops = true)
    (hB : Region.lexFrom .any ops (ops.size - k) k listed = true)
    (h : wpQuiet P ops (fun w' => ∃ n, w' = w1.drewN n) (fun a' => ∀ w', (∃ n, w' = w1.drewN n) → Q .normal a' w') (ops.toList.drop k) a) : wpAny P .any ops Q (ops.size - k) listed a w := by
  refine wpAny_of_quiet (C := fun w' => ∃ n, w' = w1.drewN n) (Q := fun a' => ∀ w', (∃ n, w' = w1.drewN n) → Q .normal a' w') (fun _ w' hw' h => h w' hw') _ _ _ _ hw ?_
  have hl : (ops.toList.drop k).length = ops.size - k := by simp
  rw [← hl]
  rw [← hl] at hB
  exact wpAnyQ_lex hs _ k _ _ (by intro j; simp) hB h

/-- errors.As at an *At, into the newest variable. -/
theorem as_hit_new (e t : Addr) (old : Value) (w : World) (hg : w.cell? ⟨0, 0, none⟩ = some (.iface 127 (.agg #[.pointer (some ⟨1, 37, none⟩)]))) (ht0 : w.cell? t = some old) (hf0 : w.frozen? t = false) :
    Calls Tryd.prog 39 #[.iface 88 (.pointer (some e)), .iface 90 (.pointer (some t))] w fun ev w' => ev = .returned (.bool true) ∧ w'.cell? t = some (.pointer (some e)) ∧ Below t.block w w' := by
  have hlt := World.block_lt_of_cell? _ _ ht0
  refine (as_hit e t old w hg ht0 hf0).mono ?_
  rintro ev w' ⟨rfl, rfl⟩
  refine ⟨rfl, ?_, ?_⟩
  · refine World.cell?_setCell_same _ _ _ (u := old) ?_
    rw [World.cell?_alloc_lt _ _ t (by simp; omega), World.cell?_alloc_lt _ _ t (by simp; omega), World.cell?_alloc_lt _ _ t (by simp; omega), World.cell?_alloc_lt _ _ t hlt]; exact ht0
  · exact ((((((Below.refl _ _).alloc (by omega) _).alloc (by simp; omega) _).alloc (by simp; omega) _).alloc (by simp; omega) _)).setCell (Nat.le_refl _) _

set_option maxHeartbeats 600000 in
theorem same_yes (W : World) (b : Nat) (u : TypeId) (v : Value) (p : ByteArray × Int) (ls : List (ByteArray × Int)) (k : Int) (h1 : 1 ≤ k) (h2 : k ≤ 10) (hch : Chain W (.iface u v) (p :: ls) k) (hf : FailAt W b (p :: ls) k)
    (hg : W.cell? ⟨0, 0, none⟩ = some (.iface 127 (.agg #[.pointer (some ⟨1, 37, none⟩)]))) (hb : (p :: ls).length ≤ 1000) :
    Calls Tryd.prog 12 #[.iface u v, .pointer (some ⟨b, 0, none⟩)] W fun e w' => e = .returned (.bool true) ∧ Below W.heap.size W w' := by
  have H := Lib.hid hch
  obtain ⟨bl, bp, cl, cp, f0, f1, f2, f3, f4⟩ := hf
  have F3 := Lib.hid f3
  have F4 := Lib.hid f4
  have G := Lib.hid hg
  clear hch f3 f4 hg
  generalize hn : (p :: ls).length = n at f0 f1
  have HN := Lib.hid hn
  clear hn
  go_enter Tryd.func12, Tryd.ntmps12
  go_wp2_with fail
  go_quiet ((go_at_call 38; exact Calls.quiet_of_same ((kind_any u v _ k h1 h2 (Chain.drewN _ H.out)).mono fun e w' h => ⟨h.1, h.2.symm⟩)))
  go_wp2_with fail
  go_loopw [0, 5] (fun E' i wl => ∃ j : Nat, j ≤ n ∧ i = .int .i64 j ∧ Below W.heap.size W wl ∧ Chain W E' ((p :: ls).drop j) k) (fun _ i _ => n - (intOf i).toNat)
  case atStart => exact ⟨0, Nat.zero_le _, rfl, ⟨rfl, rfl, rfl, Nat.le_refl _, fun _ _ => rfl⟩, H.out⟩
  case round =>
    obtain ⟨j, hj, rfl, hbw, hch⟩ := hrel
    have hN := HN.out
    have hn1000 : n ≤ 1000 := by omega
    by_cases hlt : j < n
    · obtain ⟨q, hq⟩ : ∃ q, (p :: ls).drop j = q :: (p :: ls).drop (j + 1) := ⟨_, List.drop_eq_getElem_cons (by omega)⟩
      have hqe : (p :: ls).getD j default = q := by
        have := List.drop_eq_getElem_cons (l := p :: ls) (i := j) (by omega)
        rw [hq] at this
        rw [List.getD_eq_getElem?_getD, List.getElem?_eq_getElem (by omega), Option.getD_some]
        exact (List.cons.inj this).1.symm
      rw [hq] at hch
      cases hch with
      | at_ b' l m E1 _ _ c0 c1 c2 c3 =>
        obtain ⟨u1, v1, rfl⟩ := c3.ifc
        have g3 := F3.out j (by omega)
        have g4 := F4.out j (by omega)
        rw [hqe] at g3 g4
        have hc3 := Lib.hid c3
        have hB := Lib.hid hbw
        have C := Lib.hid (And.intro c0 (And.intro c1 (And.intro c2 (And.intro g3 (And.intro g4 (And.intro f0 f1))))))
        have lb' := World.block_lt_of_cell? _ _ c0
        have lb := World.block_lt_of_cell? _ _ f0
        have lbl := World.block_lt_of_cell? _ _ g3
        have lbp := World.block_lt_of_cell? _ _ g4
        have l0 := World.block_lt_of_cell? _ _ G.out
        have hsz := hbw.size
        have k0 : wr.cell? ⟨b, 0, none⟩ = some (.slice (some ⟨bl, 0, none⟩) n cl) := by rw [hbw.cell lb]; exact f0
        have G1 : wr.cell? ⟨0, 0, none⟩ = some (.iface 127 (.agg #[.pointer (some ⟨1, 37, none⟩)])) := by rw [hbw.cell l0]; exact G.out
        clear f0 f1 f2 c0 c1 c2 c3 g3 g4 hbw hqe hq hN
        go_upto_region 9 with fail
        have hA : Below wr.heap.size wr (wr.alloc (.cells #[.pointer none] 88)) := (Below.refl _ _).alloc (Nat.le_refl _) _
        have G2 : (wr.alloc (.cells #[.pointer none] 88)).cell? ⟨0, 0, none⟩ = some (.iface 127 (.agg #[.pointer (some ⟨1, 37, none⟩)])) := by rw [hA.cell (by simp; omega)]; exact G1
        have HA := Lib.hid hA
        clear hA
        have hb0 : Below W.heap.size W (wr.alloc (.cells #[.pointer none] 88)) := hB.out.trans (HA.out.mono hB.out.size)
        obtain ⟨y0, y1, y2, y3, y4, y5, y6⟩ : (wr.alloc (.cells #[.pointer none] 88)).cell? ⟨b', 0, none⟩ = some (.string l) ∧ (wr.alloc (.cells #[.pointer none] 88)).cell? ⟨b', 1, none⟩ = some (.int .i64 m) ∧ (wr.alloc (.cells #[.pointer none] 88)).cell? ⟨b', 2, none⟩ = some (.iface u1 v1) ∧ (wr.alloc (.cells #[.pointer none] 88)).cell? ⟨bl, j, none⟩ = some (.string l) ∧ (wr.alloc (.cells #[.pointer none] 88)).cell? ⟨bp, j, none⟩ = some (.int .i64 m) ∧ (wr.alloc (.cells #[.pointer none] 88)).cell? ⟨b, 0, none⟩ = some (.slice (some ⟨bl, 0, none⟩) n cl) ∧ (wr.alloc (.cells #[.pointer none] 88)).cell? ⟨b, 1, none⟩ = some (.slice (some ⟨bp, 0, none⟩) n cp) := by
          refine ⟨?_, ?_, ?_, ?_, ?_, ?_, ?_⟩
          · exact (hb0.cell (p := ⟨b', 0, none⟩) lb').trans (C.out.1)
          · exact (hb0.cell (p := ⟨b', 1, none⟩) lb').trans (C.out.2.1)
          · exact (hb0.cell (p := ⟨b', 2, none⟩) lb').trans (C.out.2.2.1)
          · exact (hb0.cell (p := ⟨bl, j, none⟩) lbl).trans (C.out.2.2.2.1)
          · exact (hb0.cell (p := ⟨bp, j, none⟩) lbp).trans (C.out.2.2.2.2.1)
          · exact (hb0.cell (p := ⟨b, 0, none⟩) lb).trans (C.out.2.2.2.2.2.1)
          · exact (hb0.cell (p := ⟨b, 1, none⟩) lb).trans (C.out.2.2.2.2.2.2)
        have HB0 := Lib.hid hb0
        clear hb0
        refine wp_region_any (by kernel_rfl) ?_
        change wpAny _ _ _ _ _ _ _ (World.drew _)
        refine wpAny_take (i := 0) (v := ?_) rfl (by kernel_rfl) (by kernel_rfl) (by kernel_rfl) (fun _ _ _ h => h) (Or.inl ⟨by rfl, ?_⟩) ?_
        rotate_left
        · intro w; go_simp <;> with_reducible rfl
        refine wpAny_take (i := 1) (v := ?_) rfl (by kernel_rfl) (by kernel_rfl) (by kernel_rfl) (fun _ _ _ h => h) (Or.inl ⟨by rfl, ?_⟩) ?_
        rotate_left
        · intro w; go_simp <;> with_reducible rfl
        refine wpAny_ready (rs := [2]) (by kernel_rfl) (by simp) ?_
        refine AllReady.cons rfl (fun K hK => ?_) AllReady.nil
        go_simp
        go_wp2_with (first | (go_at_call 39; go_must (refine (as_hit_new ⟨b', 0, none⟩ ⟨wr.heap.size, 0, none⟩ (.pointer none) _ ?_ ?_ ?_).mono ?_; (exact G2); (simp); (simp); rintro ev w1 ⟨rfl, ht1, hb1⟩; have hB1 : Below W.heap.size W w1 := HB0.out.trans (Below.trans (Below.drew (Below.refl _ _)) (hb1.mono hB.out.size)); have x0 : w1.cell? ⟨b', 0, none⟩ = some (.string l) := (hB1.cell (p := ⟨b', 0, none⟩) lb').trans (C.out.1); have x1 : w1.cell? ⟨b', 1, none⟩ = some (.int .i64 m) := (hB1.cell (p := ⟨b', 1, none⟩) lb').trans (C.out.2.1); have x2 : w1.cell? ⟨b', 2, none⟩ = some (.iface u1 v1) := (hB1.cell (p := ⟨b', 2, none⟩) lb').trans (C.out.2.2.1); have x3 : w1.cell? ⟨bl, j, none⟩ = some (.string l) := (hB1.cell (p := ⟨bl, j, none⟩) lbl).trans (C.out.2.2.2.1); have x4 : w1.cell? ⟨bp, j, none⟩ = some (.int .i64 m) := (hB1.cell (p := ⟨bp, j, none⟩) lbp).trans (C.out.2.2.2.2.1); have x5 : w1.cell? ⟨b, 0, none⟩ = some (.slice (some ⟨bl, 0, none⟩) n cl) := (hB1.cell (p := ⟨b, 0, none⟩) lb).trans (C.out.2.2.2.2.2.1); have x6 : w1.cell? ⟨b, 1, none⟩ = some (.slice (some ⟨bp, 0, none⟩) n cp) := (hB1.cell (p := ⟨b, 1, none⟩) lb).trans (C.out.2.2.2.2.2.2); clear hb1)))
        refine wpAny_ready (rs := [3]) (by kernel_rfl) (by simp) ?_
        refine AllReady.cons rfl (fun K hK => ?_) AllReady.nil
        go_simp
        skip
        refine hK _ _ ?_
        clear hK K
        refine wpAny_ready (rs := [4]) (by kernel_rfl) (by simp) ?_
        refine AllReady.cons rfl (fun K hK => ?_) AllReady.nil
        go_simp
        skip
        refine hK _ _ ?_
        clear hK K
        refine wpAny_tail 5 w1 ⟨0, rfl⟩ (by kernel_rfl) (by kernel_rfl) ?_
        simp only [List.drop_succ_cons, List.drop_zero]
        repeat (first | (go_big_quiet_step (fail)) | quiet_step (fail))
        refine wpQuiet_nil ?_
        rintro _ ⟨nq2, rfl⟩
        go_wp2_with fail
        go_roundw
        case rel => exact ⟨j + 1, by omega, by go_num, hB1.trans ⟨rfl, rfl, rfl, Nat.le_refl _, fun _ _ => rfl⟩, hc3.out⟩
        case measure => simp [intOf]; omega
    · have hjn : j = n := by omega
      subst hjn
      rw [List.drop_of_length_le (by omega)] at hch
      cases hch
      have l0 := World.block_lt_of_cell? _ _ G.out
      have hsz := hbw.size
      have G1 : wr.cell? ⟨0, 0, none⟩ = some (.iface 127 (.agg #[.pointer (some ⟨1, 37, none⟩)])) := by rw [hbw.cell l0]; exact G.out
      have lb := World.block_lt_of_cell? _ _ f0
      have k0 : wr.cell? ⟨b, 0, none⟩ = some (.slice (some ⟨bl, 0, none⟩) j cl) := by rw [hbw.cell lb]; exact f0
      have hA : Below wr.heap.size wr (wr.alloc (.cells #[.pointer none] 88)) := (Below.refl _ _).alloc (Nat.le_refl _) _
      have G2 : (wr.alloc (.cells #[.pointer none] 88)).cell? ⟨0, 0, none⟩ = some (.iface 127 (.agg #[.pointer (some ⟨1, 37, none⟩)])) := by rw [hA.cell (by simp; omega)]; exact G1
      have HB := Lib.hid hbw
      clear f0 f1 f2 hbw hN hA
      go_wp2_with (first | (go_at_call 39; refine (as_miss k ⟨wr.heap.size, 0, none⟩ _ G2).mono ?_; rintro e w' ⟨rfl, rfl⟩))
      go_ret
      exact ⟨rfl, (HB.out.trans (((((Below.refl wr.heap.size wr).alloc (Nat.le_refl _) _).alloc (by simp) _).alloc (by simp; omega) _).alloc (by simp; omega) _ |>.mono HB.out.size))⟩
end Go.Proofs.YtoncebfhkoabaaaDoor
