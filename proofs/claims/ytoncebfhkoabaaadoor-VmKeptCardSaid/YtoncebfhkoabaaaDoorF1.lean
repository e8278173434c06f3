/- Walk of the statements' 'frame'. -/
import Derived.Test.YtoncebfhkoabaaaDoorV23
import Derived.Test.YtoncebfhkoabaaaDoorQ0
import Derived.Test.YtoncebfhkoabaaaDoorL1
import Derived.Deep.CutBlock
import Derived.Deep.DeepCutAuto
namespace Go.Proofs.YtoncebfhkoabaaaDoor
open Go.RowKit

theorem BackIs.ext {w w' : World} {A : Option Addr} {bk : List Int} (h : BackIs w A bk) (hx : Ext w w') : BackIs w' A bk := by
  intro hn
  obtain ⟨b, o, e, hc⟩ := h hn
  exact ⟨b, o, e, fun i hi => (hx.cell (p := ⟨b, o + i, none⟩) (World.block_lt_of_cell? _ _ (hc i hi))).trans (hc i hi)⟩
/-- A row of the frame's own, with the first k places. -/
structure BkAt (w : World) (F base : Nat) (pc : Int) (r : List Int) (bs : List Int) (k : Nat) (A : Option Addr) (c : Nat) : Prop where
  fr : FrAt w F 0 pc r A k c
  own : w.ownsRow base 3 1 (.slice A k c) k ((bs.take k).map (Value.int .i64))

theorem FrAt.low {w w' : World} {B b o : Nat} {pc : Int} {r : List Int} {A : Option Addr} {n cap : Nat} (h : FrAt w b o pc r A n cap) (hb : Below B w w') (hB : b < B) : FrAt w' b o pc r A n cap :=
  ⟨(hb.cell (p := ⟨b, o, none⟩) hB).trans h.pc, h.len, fun i hi => (hb.cell (p := ⟨b, o + 1 + i, none⟩) hB).trans (h.r i hi), (hb.cell (p := ⟨b, o + 33, none⟩) hB).trans h.back, fun i hi => (hb.frozen (p := ⟨b, o + i, none⟩) hB).trans (h.fz i hi)⟩
/-- A frame's row of places lies in a block of the call's own. -/
theorem BkAt.frb {w : World} {F base : Nat} {pc : Int} {r bs : List Int} {k : Nat} {A : Option Addr} {c : Nat} (h : BkAt w F base pc r bs k A c) (hk : k = min bs.length 8) (M : Nat → Prop) (hM : ∀ q, M q → q < base) : FrB M w F 0 pc r (bs.take 8) := by
  have he : bs.take 8 = bs.take k := by
    rw [hk]
    rcases Nat.le_total bs.length 8 with h8 | h8
    · rw [Nat.min_eq_left h8, List.take_of_length_le h8, List.take_of_length_le (Nat.le_refl _)]
    · rw [Nat.min_eq_right h8]
  have hl : (bs.take k).length = k := by rw [List.length_take]; omega
  have hfr := h.fr
  rw [he]
  refine ⟨A, c, by rw [hl]; exact hfr, ?_, by rw [hl]; exact own_cap h.own, ?_⟩
  · intro hne
    have hk0 : 0 < k := by
      rcases Nat.eq_zero_or_pos k with h0 | h0
      · rw [h0] at hne; simp at hne
      · exact h0
    obtain ⟨g, cap, hv, _, _⟩ := h.own.form hk0
    injection hv with hA _ _
    subst hA
    refine ⟨g, 0, rfl, fun i hi => ?_⟩
    have hx := h.own.cells (g := g) rfl i (.int .i64 ((bs.take k).getD i 0)) (by
      rw [List.getElem?_map, List.getElem?_eq_getElem hi, List.getD_eq_getElem?_getD, List.getElem?_eq_getElem hi]
      rfl)
    unfold Addr.add at hx
    by_cases h0 : i = 0
    · subst h0; simpa using hx
    · rw [if_neg h0] at hx; exact hx
  · intro _ a ha hMa
    subst ha
    have := (h.own.lt a.block rfl).1
    have := hM _ hMa
    omega
def FrameBack (w : World) (pc : Int) (r bk : List Int) (e : Ending) (w' : World) : Prop :=
  ∃ f g, e = .returned (.tuple #[.pointer (some ⟨f, 0, none⟩), .pointer (some ⟨g, 0, none⟩)]) ∧ f = w.heap.size ∧ g = w.heap.size + 1 ∧
    (∀ M : Nat → Prop, (∀ q, M q → q < w.heap.size + 2) → FrB M w' f 0 pc r bk ∧ FrB M w' g 0 pc r bk) ∧ Ext w w'

/-- Two rows of the call's own, in W, which has been made of w by appends and new blocks. -/
structure RowsAt (w W : World) (base : Nat) (bs : List Int) (V1 V2 : Value) (k1 k2 : Nat) : Prop where
  o1 : W.ownsRow base 3 1 V1 k1 ((bs.take k1).map (Value.int .i64))
  o2 : W.ownsRow base 3 1 V2 k2 ((bs.take k2).map (Value.int .i64))
  ne : V1.ownBlock = none ∨ V1.ownBlock ≠ V2.ownBlock
  big : base ≤ W.heap.size
  low : Below base w W
section
variable {w W W' : World} {base : Nat} {bs : List Int} {V1 V2 V' : Value} {k1 k2 : Nat} {x : Int}
theorem RowsAt.alloc (h : RowsAt w W base bs V1 V2 k1 k2) (o : Obj) : RowsAt w (W.alloc o) base bs V1 V2 k1 k2 :=
  ⟨h.o1.alloc o, h.o2.alloc o, h.ne, by have := h.big; simp; omega, h.low.alloc h.big o⟩
theorem RowsAt.drew (h : RowsAt w W base bs V1 V2 k1 k2) : RowsAt w W.drew base bs V1 V2 k1 k2 := ⟨h.o1, h.o2, h.ne, h.big, h.low.drew⟩
theorem grown_low (h : Below base w W) (hb : base ≤ W.heap.size) {row : Option Nat} (hg : W.grownBy W' row) (hr : ∀ k, row = some k → base ≤ k) : Below base w W' :=
  h.trans ((Below.refl _ _).grown hg hb hr)
theorem RowsAt.app1 (h : RowsAt w W base bs V1 V2 k1 k2) (own : W'.ownsRow base 3 1 V' (k1 + 1) ((bs.take k1).map (Value.int .i64) ++ [.int .i64 x])) (gr : W.grownBy W' V1.ownBlock) (hat : V'.ownBlock = V1.ownBlock ∨ V'.ownBlock = some W.heap.size) (hx : bs.take (k1 + 1) = bs.take k1 ++ [x]) :
    RowsAt w W' base bs V' V2 (k1 + 1) k2 := by
  have h2 : V2.ownBlock = none ∨ V2.ownBlock ≠ V1.ownBlock := by
    rcases h.ne with e | e
    · cases h3 : V2.ownBlock with
      | none => exact .inl rfl
      | some q => exact .inr (by rw [e]; simp)
    · exact .inr (Ne.symm e)
  refine ⟨by rw [hx, List.map_append]; exact own, h.o2.kept gr h2, ?_, Nat.le_trans h.big gr.size, grown_low h.low h.big gr fun k hk => (h.o1.lt k hk).1⟩
  rcases hat with e | e
  · rw [e]; exact h.ne
  · refine .inr ?_
    rw [e]
    intro e2
    have := (h.o2.lt _ e2.symm).2
    omega
theorem RowsAt.swap (h : RowsAt w W base bs V1 V2 k1 k2) : RowsAt w W base bs V2 V1 k2 k1 := by
  refine ⟨h.o2, h.o1, ?_, h.big, h.low⟩
  rcases h.ne with e | e
  · cases h3 : V2.ownBlock with
    | none => exact .inl rfl
    | some q => exact .inr (by rw [e]; simp)
  · exact .inr (Ne.symm e)
theorem RowsAt.app2 (h : RowsAt w W base bs V1 V2 k1 k2) (own : W'.ownsRow base 3 1 V' (k2 + 1) ((bs.take k2).map (Value.int .i64) ++ [.int .i64 x])) (gr : W.grownBy W' V2.ownBlock) (hat : V'.ownBlock = V2.ownBlock ∨ V'.ownBlock = some W.heap.size) (hx : bs.take (k2 + 1) = bs.take k2 ++ [x]) :
    RowsAt w W' base bs V1 V' k1 (k2 + 1) := (h.swap.app1 own gr hat hx).swap
end

set_option maxHeartbeats 8000000 in
set_option maxRecDepth 100000 in
theorem frame_back (pc : Int) (A : Option Addr) (cap : Nat) (vs : List Int) (B : Option Addr) (capB : Nat) (bs : List Int) (hm : (vs.length : Int) ≤ 9223372036854775807) (hmb : (bs.length : Int) ≤ 9223372036854775807) (w : World) (hi : U64Sl w A vs) (hb : BackIs w B bs) :
    Calls Tryd.prog 7 #[.int .i64 pc, .slice A vs.length cap, .slice B bs.length capB] w (FrameBack w pc (loadR vs (min vs.length 32)) (bs.take 8)) := by
  have HI := Lib.hid hi
  have HB := Lib.hid hb
  clear hi hb
  go_enter Tryd.func7, Tryd.ntmps7
  go_upto_block 0 with fail
  go_cut [10] (fun _ wx => FrAt wx w.heap.size 0 pc (loadR vs (min vs.length 32)) none 0 0 ∧ FrAt wx (w.heap.size + 1) 0 pc (loadR vs (min vs.length 32)) none 0 0 ∧ Ext w wx)
  case first =>
    go_wp2_with fail
    go_loopw [10] (fun i wr => ∃ k : Nat, k ≤ min vs.length 32 ∧ i = .int .i64 k ∧ FrAt wr w.heap.size 0 pc (loadR vs k) none 0 0 ∧ FrAt wr (w.heap.size + 1) 0 pc (loadR vs k) none 0 0 ∧ Ext w wr) (fun i _ => 32 - (intOf i).toNat)
    case atStart =>
      exact ⟨0, Nat.zero_le _, rfl, (fr_newT 50 w pc (List.replicate 32 0) rfl).ext (ext1 _ _), fr_newT2 70 _ w pc (List.replicate 32 0) rfl, (ext1 _ _).alloc (by simp) _⟩
    case round =>
      obtain ⟨k, hk, rfl, hF, hG, hX⟩ := hrel
      have X := Lib.hid hX
      clear hX
      by_cases hlt : k < vs.length
      · by_cases h32 : k < 32
        · obtain ⟨b, o, rfl, hc⟩ := HI.out (by intro e; subst e; simp at hlt)
          have cw := hc k hlt
          have hbm := World.block_lt_of_cell? _ _ cw
          have c0 := (X.out.cell (p := ⟨b, o + k, none⟩) hbm).trans cw
          have hs : loadR vs (k + 1) = (loadR vs k).set k (vs.getD k 0) := rfl
          have p1 := hF.r k h32
          have p2 := hF.fz (1 + k) (by omega)
          have p3 := hG.r k h32
          have p4 := hG.fz (1 + k) (by omega)
          have hF' := hF.setR k h32 (vs.getD k 0)
          have hG' := hG.setR k h32 (vs.getD k 0)
          have hF2 := hF'.upto (S := (· = w.heap.size + 1)) ((Upto.refl _ _).setB (0 + 1 + k) (.int .u64 (vs.getD k 0))) (by omega)
          have hG2 : FrAt ((wr.setCell ⟨w.heap.size, 0 + 1 + k, none⟩ (.int .u64 (vs.getD k 0))).setCell ⟨w.heap.size + 1, 0 + 1 + k, none⟩ (.int .u64 (vs.getD k 0))) (w.heap.size + 1) 0 pc ((loadR vs k).set k (vs.getD k 0)) none 0 0 :=
            (hG.upto (S := (· = w.heap.size)) ((Upto.refl _ _).setB (0 + 1 + k) (.int .u64 (vs.getD k 0))) (by omega)).setR k h32 (vs.getD k 0)
          clear hc cw hF' hG' hF hG
          generalize vs.getD k 0 = v at c0 hs hF2 hG2
          generalize (loadR vs k).getD k 0 = u at p1 p3
          have HS := Lib.hid hs
          clear hs
          simp only [Nat.zero_add] at p1 p2 p3 p4 hF2 hG2
          have F2 := Lib.hid (hF2.ext (Below.refl _ _).drew)
          have G2 := Lib.hid (hG2.ext (Below.refl _ _).drew)
          clear hF2 hG2
          have q0 : (0 : Int) ≤ (k : Int) := by omega
          have q1 : (k : Int) < (vs.length : Int) := by omega
          have q2 : (k : Int) < 32 := by omega
          generalize hN : vs.length = N at *
          have HN := Lib.hid hN
          clear hN
          go_wp2_with fail
          go_region
          all_goals
            go_wp2_with fail
            go_roundw
            case rel => exact ⟨k + 1, by omega, by go_num, by rw [HS.out]; exact F2.out, by rw [HS.out]; exact G2.out, (X.out.setCell (p := ⟨w.heap.size, 1 + k, none⟩) (Nat.le_refl _) _).setCell (p := ⟨w.heap.size + 1, 1 + k, none⟩) (Nat.le_succ _) _ |>.drew⟩
            case measure => simp [intOf]; omega
        · have HK := Lib.hid (show k = min vs.length 32 by omega)
          have q1 : (k : Int) < (vs.length : Int) := by omega
          have q2 : ¬ (k : Int) < 32 := by omega
          have F2 := Lib.hid hF
          have G2 := Lib.hid hG
          clear hF hG
          generalize hN : vs.length = N at *
          have HN := Lib.hid hN
          clear hN
          go_wp2_with fail
          go_meet
          exact ⟨by rw [← HK.out]; exact F2.out, by rw [← HK.out]; exact G2.out, X.out⟩
      · have HK := Lib.hid (show k = min vs.length 32 by omega)
        have q1 : ¬ (k : Int) < (vs.length : Int) := by omega
        have F2 := Lib.hid hF
        have G2 := Lib.hid hG
        clear hF hG
        generalize hN : vs.length = N at *
        have HN := Lib.hid hN
        clear hN
        go_wp2_with fail
        go_meet
        exact ⟨by rw [← HK.out]; exact F2.out, by rw [← HK.out]; exact G2.out, X.out⟩
  case rest =>
    obtain ⟨hF, hG, hX⟩ := hcut
    obtain ⟨r, hr⟩ : ∃ r, r = loadR vs (min vs.length 32) := ⟨_, rfl⟩
    rw [← hr] at hF hG
    have RR := Lib.hid hr
    clear hr
    have F0 := Lib.hid hF
    have G0 := Lib.hid hG
    have X0 := Lib.hid hX
    clear hF hG hX
    go_wp2_with fail
    go_loopw [11] (fun i wr => ∃ k : Nat, k ≤ min bs.length 8 ∧ i = .int .i64 k ∧ Ext w wr ∧ ∃ A1 c1 A2 c2, BkAt wr w.heap.size (w.heap.size + 2) pc r bs k A1 c1 ∧ BkAt wr (w.heap.size + 1) (w.heap.size + 2) pc r bs k A2 c2 ∧ ((Value.slice A1 k c1).ownBlock = none ∨ (Value.slice A1 k c1).ownBlock ≠ (Value.slice A2 k c2).ownBlock)) (fun i _ => 8 - (intOf i).toNat)
    case atStart => exact ⟨0, Nat.zero_le _, rfl, X0.out, none, 0, none, 0, ⟨F0.out, World.ownsRow_nil _ _ _ _⟩, ⟨G0.out, World.ownsRow_nil _ _ _ _⟩, .inl rfl⟩
    case round =>
      obtain ⟨k, hk, rfl, hX, A1, c1, A2, c2, hF, hG, hne⟩ := hrel
      have X := Lib.hid hX
      have XF := Lib.hid hF
      have XG := Lib.hid hG
      have NE := Lib.hid hne
      clear hX hF hG hne
      have v1 := XF.out.fr.back
      have v2 := XG.out.fr.back
      simp only [Nat.zero_add] at v1 v2
      by_cases hlt : k < bs.length
      · by_cases h8 : k < 8
        · obtain ⟨bb, bo, rfl, hc⟩ := HB.out (by intro e; subst e; simp at hlt)
          have cw := hc k hlt
          have hbm := World.block_lt_of_cell? _ _ cw
          have c0 := (X.out.cell (p := ⟨bb, bo + k, none⟩) hbm).trans cw
          have htk : bs.take (k + 1) = bs.take k ++ [bs.getD k 0] := by rw [List.take_succ_eq_append_getElem hlt, List.getD_eq_getElem?_getD, List.getElem?_eq_getElem hlt]; rfl
          generalize hx : bs.getD k 0 = x at c0 htk
          have HTK := Lib.hid htk
          obtain ⟨i0, hi0, hz0, hz1, hz2⟩ := info_parts Tryd.intInfo
          have hbig : w.heap.size + 2 ≤ wr.heap.size := XG.out.fr.lt
          have R0 := Lib.hid (show RowsAt wr wr (w.heap.size + 2) bs (.slice A1 k c1) (.slice A2 k c2) k k from ⟨XF.out.own, XG.out.own, NE.out, hbig, Below.refl _ _⟩)
          have END := Lib.hid (show ∀ W g1 p1 g2 p2, RowsAt wr W (w.heap.size + 2) bs (.slice (some ⟨g1, 0, none⟩) (k + 1) p1) (.slice (some ⟨g2, 0, none⟩) (k + 1) p2) (k + 1) (k + 1) →
              Ext w ((W.setCell ⟨w.heap.size, 33, none⟩ (.slice (some ⟨g1, 0, none⟩) (k + 1) p1)).setCell ⟨w.heap.size + 1, 33, none⟩ (.slice (some ⟨g2, 0, none⟩) (k + 1) p2)) ∧
              ∃ A1 c1 A2 c2, BkAt ((W.setCell ⟨w.heap.size, 33, none⟩ (.slice (some ⟨g1, 0, none⟩) (k + 1) p1)).setCell ⟨w.heap.size + 1, 33, none⟩ (.slice (some ⟨g2, 0, none⟩) (k + 1) p2)) w.heap.size (w.heap.size + 2) pc r bs (k + 1) A1 c1 ∧
                BkAt ((W.setCell ⟨w.heap.size, 33, none⟩ (.slice (some ⟨g1, 0, none⟩) (k + 1) p1)).setCell ⟨w.heap.size + 1, 33, none⟩ (.slice (some ⟨g2, 0, none⟩) (k + 1) p2)) (w.heap.size + 1) (w.heap.size + 2) pc r bs (k + 1) A2 c2 ∧
                ((Value.slice A1 (k + 1) c1).ownBlock = none ∨ (Value.slice A1 (k + 1) c1).ownBlock ≠ (Value.slice A2 (k + 1) c2).ownBlock) from fun W g1 p1 g2 p2 hR => by
            have f1 := XF.out.fr.low hR.low (by omega)
            have f2 := XG.out.fr.low hR.low (by omega)
            refine ⟨((X.out.trans (hR.low.mono (by omega))).setCell (p := ⟨w.heap.size, 33, none⟩) (Nat.le_refl _) _).setCell (p := ⟨w.heap.size + 1, 33, none⟩) (Nat.le_succ _) _, _, _, _, _, ⟨?_, ?_⟩, ⟨?_, ?_⟩, hR.ne⟩
            · exact (f1.setBack (some ⟨g1, 0, none⟩) (k + 1) p1).upto (S := (· = w.heap.size + 1)) ((Upto.refl _ _).setB _ _) (by omega)
            · exact ownsRow_setCell_below (ownsRow_setCell_below hR.o1 (by simp) _) (by simp) _
            · exact (f2.upto (S := (· = w.heap.size)) ((Upto.refl _ _).setB _ _) (by omega)).setBack (some ⟨g2, 0, none⟩) (k + 1) p2
            · exact ownsRow_setCell_below (ownsRow_setCell_below hR.o2 (by simp) _) (by simp) _)
          have hr1 : ∀ q, (Value.slice A1 k c1).ownBlock = some q → q < wr.heap.size := fun q hq => (R0.out.o1.lt q hq).2
          have HR1 := Lib.hid hr1
          have z1 := XF.out.fr.fz 33 (by omega)
          have z2 := XG.out.fr.fz 33 (by omega)
          simp only [Nat.zero_add] at z1 z2
          have KZ := Lib.hid (show ∀ W, Below (w.heap.size + 2) wr W → W.frozen? ⟨w.heap.size, 33, none⟩ = false ∧ W.frozen? ⟨w.heap.size + 1, 33, none⟩ = false from fun W hb => ⟨(hb.frozen (p := ⟨w.heap.size, 33, none⟩) (by simp)).trans z1, (hb.frozen (p := ⟨w.heap.size + 1, 33, none⟩) (by simp)).trans z2⟩)
          clear hr1 z1 z2
          have BL1 : ∀ o, Below (w.heap.size + 2) wr (wr.alloc o).drew := fun o => ((Below.refl _ _).alloc hbig o).drew
          have q0 : (0 : Int) ≤ (k : Int) := by omega
          have q1 : (k : Int) < (bs.length : Int) := by omega
          have q2 : (k : Int) < 8 := by omega
          generalize hN : bs.length = N at *
          have HN := Lib.hid hN
          clear hN hc cw hx htk
          go_wp2_with fail
          have KS := Lib.hid (show ∀ W, Below (w.heap.size + 2) wr W → (fun w' => w'.cell? ⟨w.heap.size, 33, none⟩ = some (.slice A1 k c1) ∧ w'.cell? ⟨w.heap.size + 1, 33, none⟩ = some (.slice A2 k c2) ∧ w'.cell? ⟨bb, bo + k, none⟩ = some (.int .i64 x)) W from fun W hb => ⟨(hb.cell (p := ⟨w.heap.size, 33, none⟩) (by simp)).trans v1, (hb.cell (p := ⟨w.heap.size + 1, 33, none⟩) (by simp)).trans v2, (hb.cell (p := ⟨bb, bo + k, none⟩) (by simp only; omega)).trans c0⟩)
          refine wp_region_D (d := 24) (S := fun w' => w'.cell? ⟨w.heap.size, 33, none⟩ = some (.slice A1 k c1) ∧ w'.cell? ⟨w.heap.size + 1, 33, none⟩ = some (.slice A2 k c2) ∧ w'.cell? ⟨bb, bo + k, none⟩ = some (.int .i64 x)) (by kernel_rfl) (KS.out _ (Below.refl _ _).drew) (fun hHeld => ?_)
          refine wpAnyD_take0 (i := 0) (oi := { dst := some 56, op := Op.move (Operand.tmp 8), type := 30, pos := "law.go:70", after := #[], guard := none }) (v := ?v0n1) rfl (by kernel_rfl) (by kernel_rfl) (by kernel_rfl) (by decide) (fun _ _ _ h => h) (Or.inl ⟨by rfl, ?y0n1⟩) (fun _ => hHeld) ?r0n1
          case y0n1 => (intro w' hSw; go_simp; try with_reducible rfl)
          try simp only [Act.put, List.setIfInBounds_toArray, List.set_cons_zero, List.set_cons_succ]
          refine wpAnyD_take0 (i := 1) (oi := { dst := some 57, op := Op.move (Operand.tmp 9), type := 31, pos := "law.go:70", after := #[{ on := 24, ground := Ground.gcOnly Departure.lateStores }], guard := none }) (v := ?v1n2) rfl (by kernel_rfl) (by kernel_rfl) (by kernel_rfl) (by decide) (fun _ _ _ h => h) (Or.inl ⟨by rfl, ?y1n2⟩) (fun _ => hHeld) ?r1n2
          case y1n2 => (intro w' hSw; go_simp; try with_reducible rfl)
          try simp only [Act.put, List.setIfInBounds_toArray, List.set_cons_zero, List.set_cons_succ]
          refine wpAnyD_take0 (i := 2) (oi := { dst := some 58, op := Op.move (Operand.tmp 8), type := 30, pos := "law.go:70", after := #[], guard := none }) (v := ?v2n3) rfl (by kernel_rfl) (by kernel_rfl) (by kernel_rfl) (by decide) (fun _ _ _ h => h) (Or.inl ⟨by rfl, ?y2n3⟩) (fun _ => hHeld) ?r2n3
          case y2n3 => (intro w' hSw; go_simp; try with_reducible rfl)
          try simp only [Act.put, List.setIfInBounds_toArray, List.set_cons_zero, List.set_cons_succ]
          refine wpAnyD_take0 (i := 3) (oi := { dst := some 59, op := Op.nilCheck (Operand.tmp 58), type := 0, pos := "law.go:70", after := #[{ on := 2, ground := Ground.data }], guard := none }) (v := ?v3n4) rfl (by kernel_rfl) (by kernel_rfl) (by kernel_rfl) (by decide) (fun _ _ _ h => h) (Or.inl ⟨by rfl, ?y3n4⟩) (fun _ => hHeld) ?r3n4
          case y3n4 => (intro w' hSw; go_simp; try with_reducible rfl)
          try simp only [Act.put, List.setIfInBounds_toArray, List.set_cons_zero, List.set_cons_succ]
          refine wpAnyD_take0 (i := 4) (oi := { dst := some 60, op := Op.fieldAddr 50 (Operand.tmp 59) 2, type := 0, pos := "law.go:70", after := #[{ on := 3, ground := Ground.data }], guard := none }) (v := ?v4n5) rfl (by kernel_rfl) (by kernel_rfl) (by kernel_rfl) (by decide) (fun _ _ _ h => h) (Or.inl ⟨by rfl, ?y4n5⟩) (fun _ => hHeld) ?r4n5
          case y4n5 => (intro w' hSw; go_simp; try with_reducible rfl)
          try simp only [Act.put, List.setIfInBounds_toArray, List.set_cons_zero, List.set_cons_succ]
          refine wpAnyD_take (i := 5) (oi := { dst := some 61, op := Op.load 24 (Operand.tmp 60), type := 24, pos := "law.go:70", after := #[{ on := 4, ground := Ground.data }], guard := none }) (v := ?v5n6) rfl (by kernel_rfl) (by kernel_rfl) (by kernel_rfl) (by kernel_rfl) (by kernel_rfl) (fun _ _ _ h => h) (Or.inl ⟨by rfl, ?y5n6⟩) hHeld ?r5n6
          case y5n6 => (intro w' hSw; (try dsimp only at hSw); go_simp; try with_reducible rfl)
          try simp only [Act.put, List.setIfInBounds_toArray, List.set_cons_zero, List.set_cons_succ]
          refine wpAnyD_take0 (i := 6) (oi := { dst := some 62, op := Op.move (Operand.tmp 2), type := 24, pos := "law.go:70", after := #[], guard := none }) (v := ?v6n7) rfl (by kernel_rfl) (by kernel_rfl) (by kernel_rfl) (by decide) (fun _ _ _ h => h) (Or.inl ⟨by rfl, ?y6n7⟩) (fun _ => hHeld) ?r6n7
          case y6n7 => (intro w' hSw; go_simp; try with_reducible rfl)
          try simp only [Act.put, List.setIfInBounds_toArray, List.set_cons_zero, List.set_cons_succ]
          refine wpAnyD_take0 (i := 7) (oi := { dst := some 63, op := Op.move (Operand.tmp 11), type := 3, pos := "law.go:70", after := #[], guard := none }) (v := ?v7n8) rfl (by kernel_rfl) (by kernel_rfl) (by kernel_rfl) (by decide) (fun _ _ _ h => h) (Or.inl ⟨by rfl, ?y7n8⟩) (fun _ => hHeld) ?r7n8
          case y7n8 => (intro w' hSw; go_simp; try with_reducible rfl)
          try simp only [Act.put, List.setIfInBounds_toArray, List.set_cons_zero, List.set_cons_succ]
          refine wpAnyD_take0 (i := 8) (oi := { dst := some 64, op := Op.indexAddr 24 (Operand.tmp 62) (Operand.tmp 63), type := 0, pos := "law.go:70", after := #[{ on := 6, ground := Ground.data }, { on := 7, ground := Ground.data }], guard := none }) (v := ?v8n9) rfl (by kernel_rfl) (by kernel_rfl) (by kernel_rfl) (by decide) (fun _ _ _ h => h) (Or.inl ⟨by rfl, ?y8n9⟩) (fun _ => hHeld) ?r8n9
          case y8n9 => (intro w' hSw; go_simp; try with_reducible rfl)
          try simp only [Act.put, List.setIfInBounds_toArray, List.set_cons_zero, List.set_cons_succ]
          refine wpAnyD_take (i := 9) (oi := { dst := some 65, op := Op.load 3 (Operand.tmp 64), type := 3, pos := "law.go:70", after := #[{ on := 8, ground := Ground.data }], guard := none }) (v := ?v9n10) rfl (by kernel_rfl) (by kernel_rfl) (by kernel_rfl) (by kernel_rfl) (by kernel_rfl) (fun _ _ _ h => h) (Or.inl ⟨by rfl, ?y9n10⟩) hHeld ?r9n10
          case y9n10 => (intro w' hSw; (try dsimp only at hSw); go_simp; try with_reducible rfl)
          try simp only [Act.put, List.setIfInBounds_toArray, List.set_cons_zero, List.set_cons_succ]
          refine wpAnyD_take0 (i := 12) (oi := { dst := some 68, op := Op.move (Operand.tmp 9), type := 31, pos := "law.go:70", after := #[], guard := none }) (v := ?v12n11) rfl (by kernel_rfl) (by kernel_rfl) (by kernel_rfl) (by decide) (fun _ _ _ h => h) (Or.inl ⟨by rfl, ?y12n11⟩) (fun _ => hHeld) ?r12n11
          case y12n11 => (intro w' hSw; go_simp; try with_reducible rfl)
          try simp only [Act.put, List.setIfInBounds_toArray, List.set_cons_zero, List.set_cons_succ]
          refine wpAnyD_take0 (i := 13) (oi := { dst := some 69, op := Op.nilCheck (Operand.tmp 68), type := 0, pos := "law.go:70", after := #[{ on := 12, ground := Ground.data }], guard := none }) (v := ?v13n12) rfl (by kernel_rfl) (by kernel_rfl) (by kernel_rfl) (by decide) (fun _ _ _ h => h) (Or.inl ⟨by rfl, ?y13n12⟩) (fun _ => hHeld) ?r13n12
          case y13n12 => (intro w' hSw; go_simp; try with_reducible rfl)
          try simp only [Act.put, List.setIfInBounds_toArray, List.set_cons_zero, List.set_cons_succ]
          refine wpAnyD_take0 (i := 14) (oi := { dst := some 70, op := Op.fieldAddr 70 (Operand.tmp 69) 2, type := 0, pos := "law.go:70", after := #[{ on := 13, ground := Ground.data }], guard := none }) (v := ?v14n13) rfl (by kernel_rfl) (by kernel_rfl) (by kernel_rfl) (by decide) (fun _ _ _ h => h) (Or.inl ⟨by rfl, ?y14n13⟩) (fun _ => hHeld) ?r14n13
          case y14n13 => (intro w' hSw; go_simp; try with_reducible rfl)
          try simp only [Act.put, List.setIfInBounds_toArray, List.set_cons_zero, List.set_cons_succ]
          refine wpAnyD_take (i := 15) (oi := { dst := some 71, op := Op.load 24 (Operand.tmp 70), type := 24, pos := "law.go:70", after := #[{ on := 14, ground := Ground.data }], guard := none }) (v := ?v15n14) rfl (by kernel_rfl) (by kernel_rfl) (by kernel_rfl) (by kernel_rfl) (by kernel_rfl) (fun _ _ _ h => h) (Or.inl ⟨by rfl, ?y15n14⟩) hHeld ?r15n14
          case y15n14 => (intro w' hSw; (try dsimp only at hSw); go_simp; try with_reducible rfl)
          try simp only [Act.put, List.setIfInBounds_toArray, List.set_cons_zero, List.set_cons_succ]
          refine wpAnyD_take0 (i := 16) (oi := { dst := some 72, op := Op.move (Operand.tmp 2), type := 24, pos := "law.go:70", after := #[], guard := none }) (v := ?v16n15) rfl (by kernel_rfl) (by kernel_rfl) (by kernel_rfl) (by decide) (fun _ _ _ h => h) (Or.inl ⟨by rfl, ?y16n15⟩) (fun _ => hHeld) ?r16n15
          case y16n15 => (intro w' hSw; go_simp; try with_reducible rfl)
          try simp only [Act.put, List.setIfInBounds_toArray, List.set_cons_zero, List.set_cons_succ]
          refine wpAnyD_take0 (i := 17) (oi := { dst := some 73, op := Op.move (Operand.tmp 11), type := 3, pos := "law.go:70", after := #[], guard := none }) (v := ?v17n16) rfl (by kernel_rfl) (by kernel_rfl) (by kernel_rfl) (by decide) (fun _ _ _ h => h) (Or.inl ⟨by rfl, ?y17n16⟩) (fun _ => hHeld) ?r17n16
          case y17n16 => (intro w' hSw; go_simp; try with_reducible rfl)
          try simp only [Act.put, List.setIfInBounds_toArray, List.set_cons_zero, List.set_cons_succ]
          refine wpAnyD_take0 (i := 18) (oi := { dst := some 74, op := Op.indexAddr 24 (Operand.tmp 72) (Operand.tmp 73), type := 0, pos := "law.go:70", after := #[{ on := 16, ground := Ground.data }, { on := 17, ground := Ground.data }], guard := none }) (v := ?v18n17) rfl (by kernel_rfl) (by kernel_rfl) (by kernel_rfl) (by decide) (fun _ _ _ h => h) (Or.inl ⟨by rfl, ?y18n17⟩) (fun _ => hHeld) ?r18n17
          case y18n17 => (intro w' hSw; go_simp; try with_reducible rfl)
          try simp only [Act.put, List.setIfInBounds_toArray, List.set_cons_zero, List.set_cons_succ]
          refine wpAnyD_take (i := 19) (oi := { dst := some 75, op := Op.load 3 (Operand.tmp 74), type := 3, pos := "law.go:70", after := #[{ on := 18, ground := Ground.data }], guard := none }) (v := ?v19n18) rfl (by kernel_rfl) (by kernel_rfl) (by kernel_rfl) (by kernel_rfl) (by kernel_rfl) (fun _ _ _ h => h) (Or.inl ⟨by rfl, ?y19n18⟩) hHeld ?r19n18
          case y19n18 => (intro w' hSw; (try dsimp only at hSw); go_simp; try with_reducible rfl)
          try simp only [Act.put, List.setIfInBounds_toArray, List.set_cons_zero, List.set_cons_succ]
          refine wpAnyD_ready (rs := [10, 20]) (by kernel_rfl) (by simp) ?_
          refine AllReadyD.cons (o := { dst := some 66, op := Op.buildSlice 24 1 #[(0, Operand.tmp 65)], type := 24, pos := "law.go:70", after := #[{ on := 9, ground := Ground.data }], guard := none }) rfl (fun K hK => ?_) (AllReadyD.cons (o := { dst := some 76, op := Op.buildSlice 24 1 #[(0, Operand.tmp 75)], type := 24, pos := "law.go:70", after := #[{ on := 19, ground := Ground.data }], guard := none }) rfl (fun K hK => ?_) AllReadyD.nil)
          · go_simp
            refine hK.out _ _ (KS.out _ ((R0.out.alloc _).drew).low) (fun hHeld => ?_)
            clear hK K
            try simp only [Act.put, List.setIfInBounds_toArray, List.set_cons_zero, List.set_cons_succ]
            refine wpAnyD_ready (rs := [11, 20]) (by kernel_rfl) (by simp) ?_
            refine AllReadyD.cons (o := { dst := some 67, op := Op.call { callee := Callee.builtin Builtin.append, args := #[Operand.tmp 61, Operand.tmp 66], argTypes := #[24, 24] }, type := 24, pos := "law.go:70", after := #[{ on := 5, ground := Ground.data }, { on := 10, ground := Ground.data }], guard := none }) rfl (fun K hK => ?_) (AllReadyD.cons (o := { dst := some 76, op := Op.buildSlice 24 1 #[(0, Operand.tmp 75)], type := 24, pos := "law.go:70", after := #[{ on := 19, ground := Ground.data }], guard := none }) rfl (fun K hK => ?_) AllReadyD.nil)
            · refine step_append_any _ rfl (.tmp 61) (.tmp 66) 24 rfl (w.heap.size + 2) 3 i0 _ 1 8 Tryd.underlying24 hi0 hz0 hz1 hz2 rfl (Nat.zero_lt_succ 0) (.slice A1 k c1) k ((bs.take k).map (Value.int .i64)) ?_ ?_ (wr.heap.size + 1) (some ⟨wr.heap.size, 0, none⟩) 1 1 [.int .i64 x] ?_ ?_ ?_ ?_ ?_ ?_ ?_
              · first | rfl | (simp [Act.eval]; done) | (simp [Act.eval, Act.put]; done)
              · exact ((R0.out.alloc (.cells #[.int .i64 x] 3)).drew).o1
              · first | rfl | (simp [Act.eval]; done) | (simp [Act.eval, Act.put]; done)
              · exact ⟨rfl, fun _ => ⟨_, rfl, Nat.lt_succ_self _, news_one (by simp)⟩⟩
              · intro u hu; simp at hu; subst hu; rfl
              · unfold maxLen; omega
              · omega
              · exact ((R0.out.alloc (.cells #[.int .i64 x] 3)).drew).big
              intro v11 w11 own11 gr11 at11
              have R11 := Lib.hid (((R0.out.alloc (.cells #[.int .i64 x] 3)).drew).app1 own11 gr11 at11 HTK.out)
              have far11 := gr11
              obtain ⟨g11, cp11, hv11, _, _⟩ := own11.form (Nat.succ_pos k)
              subst hv11
              clear own11 at11
              refine hK.out _ _ (KS.out _ R11.out.low) (fun hHeld => ?_)
              clear hK K
              try simp only [Act.put, List.setIfInBounds_toArray, List.set_cons_zero, List.set_cons_succ]
              refine wpAnyD_ready (rs := [20]) (by kernel_rfl) (by simp) ?_
              refine AllReadyD.cons (o := { dst := some 76, op := Op.buildSlice 24 1 #[(0, Operand.tmp 75)], type := 24, pos := "law.go:70", after := #[{ on := 19, ground := Ground.data }], guard := none }) rfl (fun K hK => ?_) AllReadyD.nil
              go_simp
              refine hK.out _ _ (KS.out _ (R11.out.alloc _).low) (fun hHeld => ?_)
              clear hK K
              try simp only [Act.put, List.setIfInBounds_toArray, List.set_cons_zero, List.set_cons_succ]
              refine wpAnyD_ready (rs := [21]) (by kernel_rfl) (by simp) ?_
              refine AllReadyD.cons (o := { dst := some 77, op := Op.call { callee := Callee.builtin Builtin.append, args := #[Operand.tmp 71, Operand.tmp 76], argTypes := #[24, 24] }, type := 24, pos := "law.go:70", after := #[{ on := 15, ground := Ground.data }, { on := 20, ground := Ground.data }, { on := 11, ground := Ground.chain }], guard := none }) rfl (fun K hK => ?_) AllReadyD.nil
              refine step_append_any _ rfl (.tmp 71) (.tmp 76) 24 rfl (w.heap.size + 2) 3 i0 _ 1 8 Tryd.underlying24 hi0 hz0 hz1 hz2 rfl (Nat.zero_lt_succ 0) (.slice A2 k c2) k ((bs.take k).map (Value.int .i64)) ?_ ?_ (w11.heap.size + 1) (some ⟨w11.heap.size, 0, none⟩) 1 1 [.int .i64 x] ?_ ?_ ?_ ?_ ?_ ?_ ?_
              · first | rfl | (simp [Act.eval]; done) | (simp [Act.eval, Act.put]; done)
              · exact (R11.out.alloc (.cells #[.int .i64 x] 3)).o2
              · first | rfl | (simp [Act.eval]; done) | (simp [Act.eval, Act.put]; done)
              · exact ⟨rfl, fun _ => ⟨_, rfl, Nat.lt_succ_self _, news_one (by simp)⟩⟩
              · intro u hu; simp at hu; subst hu; rfl
              · unfold maxLen; omega
              · omega
              · exact (R11.out.alloc (.cells #[.int .i64 x] 3)).big
              intro v21 w21 own21 gr21 at21
              have R21 := Lib.hid ((R11.out.alloc (.cells #[.int .i64 x] 3)).app2 own21 gr21 at21 HTK.out)
              have far21 := gr21
              obtain ⟨g21, cp21, hv21, _, _⟩ := own21.form (Nat.succ_pos k)
              subst hv21
              clear own21 at21
              refine hK.out _ _ (KS.out _ R21.out.low) (fun hHeld => ?_)
              clear hK K
              try simp only [Act.put, List.setIfInBounds_toArray, List.set_cons_zero, List.set_cons_succ]
              obtain ⟨zz1, zz2⟩ := KZ.out _ R21.out.low
              obtain ⟨ss1, ss2, _⟩ := KS.out _ R21.out.low
              refine wpAnyD_take0 (i := 22) (oi := { dst := some 78, op := Op.nilCheck (Operand.tmp 56), type := 0, pos := "law.go:70", after := #[{ on := 0, ground := Ground.data }, { on := 0, ground := Ground.phase }, { on := 1, ground := Ground.textOnly Departure.lateStores }, { on := 2, ground := Ground.phase }, { on := 3, ground := Ground.phase }, { on := 4, ground := Ground.phase }, { on := 5, ground := Ground.phase }, { on := 6, ground := Ground.phase }, { on := 7, ground := Ground.phase }, { on := 8, ground := Ground.phase }, { on := 9, ground := Ground.phase }, { on := 10, ground := Ground.phase }, { on := 11, ground := Ground.phase }, { on := 12, ground := Ground.textOnly Departure.lateStores }, { on := 13, ground := Ground.textOnly Departure.lateStoresUnsure }, { on := 14, ground := Ground.textOnly Departure.lateStoresUnsure }, { on := 15, ground := Ground.phase }, { on := 16, ground := Ground.textOnly Departure.lateStores }, { on := 17, ground := Ground.textOnly Departure.lateStores }, { on := 18, ground := Ground.textOnly Departure.lateStoresUnsure }, { on := 19, ground := Ground.phase }, { on := 20, ground := Ground.textOnly Departure.lateStoresUnsure }, { on := 21, ground := Ground.phase }], guard := none }) (v := ?v22n19) rfl (by kernel_rfl) (by kernel_rfl) (by kernel_rfl) (by decide) (fun _ _ _ h => h) (Or.inl ⟨by rfl, ?y22n19⟩) (fun _ => hHeld) ?r22n19
              case y22n19 => (intro w' hSw; go_simp; try with_reducible rfl)
              try simp only [Act.put, List.setIfInBounds_toArray, List.set_cons_zero, List.set_cons_succ]
              refine wpAnyD_take0 (i := 23) (oi := { dst := some 79, op := Op.fieldAddr 50 (Operand.tmp 78) 2, type := 0, pos := "law.go:70", after := #[{ on := 22, ground := Ground.data }, { on := 0, ground := Ground.phase }, { on := 1, ground := Ground.textOnly Departure.lateStores }, { on := 2, ground := Ground.phase }, { on := 3, ground := Ground.phase }, { on := 4, ground := Ground.phase }, { on := 5, ground := Ground.phase }, { on := 6, ground := Ground.phase }, { on := 7, ground := Ground.phase }, { on := 8, ground := Ground.phase }, { on := 9, ground := Ground.phase }, { on := 10, ground := Ground.phase }, { on := 11, ground := Ground.phase }, { on := 12, ground := Ground.textOnly Departure.lateStores }, { on := 13, ground := Ground.textOnly Departure.lateStoresUnsure }, { on := 14, ground := Ground.textOnly Departure.lateStoresUnsure }, { on := 15, ground := Ground.phase }, { on := 16, ground := Ground.textOnly Departure.lateStores }, { on := 17, ground := Ground.textOnly Departure.lateStores }, { on := 18, ground := Ground.textOnly Departure.lateStoresUnsure }, { on := 19, ground := Ground.phase }, { on := 20, ground := Ground.textOnly Departure.lateStoresUnsure }, { on := 21, ground := Ground.phase }], guard := none }) (v := ?v23n20) rfl (by kernel_rfl) (by kernel_rfl) (by kernel_rfl) (by decide) (fun _ _ _ h => h) (Or.inl ⟨by rfl, ?y23n20⟩) (fun _ => hHeld) ?r23n20
              case y23n20 => (intro w' hSw; go_simp; try with_reducible rfl)
              try simp only [Act.put, List.setIfInBounds_toArray, List.set_cons_zero, List.set_cons_succ]
              refine wpAnyD_ready (rs := [24]) (by kernel_rfl) (by simp) ?_
              refine AllReadyD.last (o := { dst := none, op := Op.store 24 (Operand.tmp 79) (Operand.tmp 67), type := 0, pos := "law.go:70", after := #[{ on := 23, ground := Ground.data }, { on := 11, ground := Ground.data }, { on := 21, ground := Ground.chain }, { on := 0, ground := Ground.phase }, { on := 1, ground := Ground.textOnly Departure.lateStores }, { on := 2, ground := Ground.phase }, { on := 3, ground := Ground.phase }, { on := 4, ground := Ground.phase }, { on := 5, ground := Ground.phase }, { on := 6, ground := Ground.phase }, { on := 7, ground := Ground.phase }, { on := 8, ground := Ground.phase }, { on := 9, ground := Ground.phase }, { on := 10, ground := Ground.phase }, { on := 11, ground := Ground.phase }, { on := 12, ground := Ground.textOnly Departure.lateStores }, { on := 13, ground := Ground.textOnly Departure.lateStoresUnsure }, { on := 14, ground := Ground.textOnly Departure.lateStoresUnsure }, { on := 15, ground := Ground.phase }, { on := 16, ground := Ground.textOnly Departure.lateStores }, { on := 17, ground := Ground.textOnly Departure.lateStores }, { on := 18, ground := Ground.textOnly Departure.lateStoresUnsure }, { on := 19, ground := Ground.phase }, { on := 20, ground := Ground.textOnly Departure.lateStoresUnsure }, { on := 21, ground := Ground.phase }], guard := none }) rfl (by kernel_rfl) (fun K hK => ?_) AllReadyD.nil
              go_simp
              refine hK.out _ _ ?_
              clear hK K
              try simp only [Act.put, List.setIfInBounds_toArray, List.set_cons_zero, List.set_cons_succ]
              refine wpAnyD_take0 (i := 25) (oi := { dst := some 80, op := Op.nilCheck (Operand.tmp 57), type := 0, pos := "law.go:70", after := #[{ on := 1, ground := Ground.data }, { on := 0, ground := Ground.phase }, { on := 1, ground := Ground.phase }, { on := 2, ground := Ground.phase }, { on := 3, ground := Ground.phase }, { on := 4, ground := Ground.phase }, { on := 5, ground := Ground.phase }, { on := 6, ground := Ground.phase }, { on := 7, ground := Ground.phase }, { on := 8, ground := Ground.phase }, { on := 9, ground := Ground.phase }, { on := 10, ground := Ground.phase }, { on := 11, ground := Ground.phase }, { on := 12, ground := Ground.phase }, { on := 13, ground := Ground.phase }, { on := 14, ground := Ground.phase }, { on := 15, ground := Ground.phase }, { on := 16, ground := Ground.phase }, { on := 17, ground := Ground.phase }, { on := 18, ground := Ground.phase }, { on := 19, ground := Ground.phase }, { on := 20, ground := Ground.phase }, { on := 21, ground := Ground.phase }, { on := 22, ground := Ground.phase }, { on := 23, ground := Ground.phase }, { on := 24, ground := Ground.phase }], guard := none }) (v := ?v25n21) rfl (by kernel_rfl) (by kernel_rfl) (by kernel_rfl) (by decide) (fun _ _ _ h => h) (Or.inl ⟨by rfl, ?y25n21⟩) (fun h => by cases h) ?r25n21
              case y25n21 => (intro w' hSw; go_simp; try with_reducible rfl)
              try simp only [Act.put, List.setIfInBounds_toArray, List.set_cons_zero, List.set_cons_succ]
              refine wpAnyD_take0 (i := 26) (oi := { dst := some 81, op := Op.fieldAddr 70 (Operand.tmp 80) 2, type := 0, pos := "law.go:70", after := #[{ on := 25, ground := Ground.data }, { on := 0, ground := Ground.phase }, { on := 1, ground := Ground.phase }, { on := 2, ground := Ground.phase }, { on := 3, ground := Ground.phase }, { on := 4, ground := Ground.phase }, { on := 5, ground := Ground.phase }, { on := 6, ground := Ground.phase }, { on := 7, ground := Ground.phase }, { on := 8, ground := Ground.phase }, { on := 9, ground := Ground.phase }, { on := 10, ground := Ground.phase }, { on := 11, ground := Ground.phase }, { on := 12, ground := Ground.phase }, { on := 13, ground := Ground.phase }, { on := 14, ground := Ground.phase }, { on := 15, ground := Ground.phase }, { on := 16, ground := Ground.phase }, { on := 17, ground := Ground.phase }, { on := 18, ground := Ground.phase }, { on := 19, ground := Ground.phase }, { on := 20, ground := Ground.phase }, { on := 21, ground := Ground.phase }, { on := 22, ground := Ground.phase }, { on := 23, ground := Ground.phase }, { on := 24, ground := Ground.phase }], guard := none }) (v := ?v26n22) rfl (by kernel_rfl) (by kernel_rfl) (by kernel_rfl) (by decide) (fun _ _ _ h => h) (Or.inl ⟨by rfl, ?y26n22⟩) (fun h => by cases h) ?r26n22
              case y26n22 => (intro w' hSw; go_simp; try with_reducible rfl)
              try simp only [Act.put, List.setIfInBounds_toArray, List.set_cons_zero, List.set_cons_succ]
              refine wpAnyD_ready (rs := [27]) (by kernel_rfl) (by simp) ?_
              refine AllReadyD.last (o := { dst := none, op := Op.store 24 (Operand.tmp 81) (Operand.tmp 77), type := 0, pos := "law.go:70", after := #[{ on := 26, ground := Ground.data }, { on := 21, ground := Ground.data }, { on := 24, ground := Ground.chain }, { on := 0, ground := Ground.phase }, { on := 1, ground := Ground.phase }, { on := 2, ground := Ground.phase }, { on := 3, ground := Ground.phase }, { on := 4, ground := Ground.phase }, { on := 5, ground := Ground.phase }, { on := 6, ground := Ground.phase }, { on := 7, ground := Ground.phase }, { on := 8, ground := Ground.phase }, { on := 9, ground := Ground.phase }, { on := 10, ground := Ground.phase }, { on := 11, ground := Ground.phase }, { on := 12, ground := Ground.phase }, { on := 13, ground := Ground.phase }, { on := 14, ground := Ground.phase }, { on := 15, ground := Ground.phase }, { on := 16, ground := Ground.phase }, { on := 17, ground := Ground.phase }, { on := 18, ground := Ground.phase }, { on := 19, ground := Ground.phase }, { on := 20, ground := Ground.phase }, { on := 21, ground := Ground.phase }, { on := 22, ground := Ground.phase }, { on := 23, ground := Ground.phase }, { on := 24, ground := Ground.phase }], guard := none }) rfl (by kernel_rfl) (fun K hK => ?_) AllReadyD.nil
              go_simp
              refine hK.out _ _ ?_
              clear hK K
              refine wpAnyD_done (by kernel_rfl) ?_ _
              go_wp2_with fail
              go_roundw
              case rel => exact ⟨k + 1, by omega, by go_num, END.out _ _ _ _ _ R21.out⟩
              case measure => simp [intOf]; omega
            · go_simp
              refine hK.out _ _ (KS.out _ (((R0.out.alloc _).alloc _).drew).low) (fun hHeld => ?_)
              clear hK K
              try simp only [Act.put, List.setIfInBounds_toArray, List.set_cons_zero, List.set_cons_succ]
              refine wpAnyD_ready (rs := [11]) (by kernel_rfl) (by simp) ?_
              refine AllReadyD.cons (o := { dst := some 67, op := Op.call { callee := Callee.builtin Builtin.append, args := #[Operand.tmp 61, Operand.tmp 66], argTypes := #[24, 24] }, type := 24, pos := "law.go:70", after := #[{ on := 5, ground := Ground.data }, { on := 10, ground := Ground.data }], guard := none }) rfl (fun K hK => ?_) AllReadyD.nil
              refine step_append_any _ rfl (.tmp 61) (.tmp 66) 24 rfl (w.heap.size + 2) 3 i0 _ 1 8 Tryd.underlying24 hi0 hz0 hz1 hz2 rfl (Nat.zero_lt_succ 0) (.slice A1 k c1) k ((bs.take k).map (Value.int .i64)) ?_ ?_ (wr.heap.size + 1) (some ⟨wr.heap.size, 0, none⟩) 1 1 [.int .i64 x] ?_ ?_ ?_ ?_ ?_ ?_ ?_
              · first | rfl | (simp [Act.eval]; done) | (simp [Act.eval, Act.put]; done)
              · exact (((R0.out.alloc (.cells #[.int .i64 x] 3)).alloc (.cells #[.int .i64 x] 3)).drew).o1
              · first | rfl | (simp [Act.eval]; done) | (simp [Act.eval, Act.put]; done)
              · exact ⟨rfl, fun _ => ⟨_, rfl, Nat.lt_succ_self _, news_one (by simp)⟩⟩
              · intro u hu; simp at hu; subst hu; rfl
              · unfold maxLen; omega
              · omega
              · exact (((R0.out.alloc (.cells #[.int .i64 x] 3)).alloc (.cells #[.int .i64 x] 3)).drew).big
              intro v11 w11 own11 gr11 at11
              have R11 := Lib.hid ((((R0.out.alloc (.cells #[.int .i64 x] 3)).alloc (.cells #[.int .i64 x] 3)).drew).app1 own11 gr11 at11 HTK.out)
              have far11 := gr11
              have cx : w11.cell? ⟨wr.heap.size + 1, 0, none⟩ = some (.int .i64 x) := (far11.cell_far _ (by simp) (fun h => by have := HR1.out _ h.symm; simp only at this; omega)).trans (by simp)
              obtain ⟨g11, cp11, hv11, _, _⟩ := own11.form (Nat.succ_pos k)
              subst hv11
              clear own11 at11
              refine hK.out _ _ (KS.out _ R11.out.low) (fun hHeld => ?_)
              clear hK K
              try simp only [Act.put, List.setIfInBounds_toArray, List.set_cons_zero, List.set_cons_succ]
              refine wpAnyD_ready (rs := [21]) (by kernel_rfl) (by simp) ?_
              refine AllReadyD.cons (o := { dst := some 77, op := Op.call { callee := Callee.builtin Builtin.append, args := #[Operand.tmp 71, Operand.tmp 76], argTypes := #[24, 24] }, type := 24, pos := "law.go:70", after := #[{ on := 15, ground := Ground.data }, { on := 20, ground := Ground.data }, { on := 11, ground := Ground.chain }], guard := none }) rfl (fun K hK => ?_) AllReadyD.nil
              refine step_append_any _ rfl (.tmp 71) (.tmp 76) 24 rfl (w.heap.size + 2) 3 i0 _ 1 8 Tryd.underlying24 hi0 hz0 hz1 hz2 rfl (Nat.zero_lt_succ 0) (.slice A2 k c2) k ((bs.take k).map (Value.int .i64)) ?_ ?_ ((wr.heap.size + 1) + 1) (some ⟨(wr.heap.size + 1), 0, none⟩) 1 1 [.int .i64 x] ?_ ?_ ?_ ?_ ?_ ?_ ?_
              · first | rfl | (simp [Act.eval]; done) | (simp [Act.eval, Act.put]; done)
              · exact (R11.out).o2
              · first | rfl | (simp [Act.eval]; done) | (simp [Act.eval, Act.put]; done)
              · exact ⟨rfl, fun _ => ⟨_, rfl, Nat.lt_succ_self _, news_one cx⟩⟩
              · intro u hu; simp at hu; subst hu; rfl
              · unfold maxLen; omega
              · omega
              · exact (R11.out).big
              intro v21 w21 own21 gr21 at21
              have R21 := Lib.hid ((R11.out).app2 own21 gr21 at21 HTK.out)
              have far21 := gr21
              obtain ⟨g21, cp21, hv21, _, _⟩ := own21.form (Nat.succ_pos k)
              subst hv21
              clear own21 at21
              refine hK.out _ _ (KS.out _ R21.out.low) (fun hHeld => ?_)
              clear hK K
              try simp only [Act.put, List.setIfInBounds_toArray, List.set_cons_zero, List.set_cons_succ]
              obtain ⟨zz1, zz2⟩ := KZ.out _ R21.out.low
              obtain ⟨ss1, ss2, _⟩ := KS.out _ R21.out.low
              refine wpAnyD_take0 (i := 22) (oi := { dst := some 78, op := Op.nilCheck (Operand.tmp 56), type := 0, pos := "law.go:70", after := #[{ on := 0, ground := Ground.data }, { on := 0, ground := Ground.phase }, { on := 1, ground := Ground.textOnly Departure.lateStores }, { on := 2, ground := Ground.phase }, { on := 3, ground := Ground.phase }, { on := 4, ground := Ground.phase }, { on := 5, ground := Ground.phase }, { on := 6, ground := Ground.phase }, { on := 7, ground := Ground.phase }, { on := 8, ground := Ground.phase }, { on := 9, ground := Ground.phase }, { on := 10, ground := Ground.phase }, { on := 11, ground := Ground.phase }, { on := 12, ground := Ground.textOnly Departure.lateStores }, { on := 13, ground := Ground.textOnly Departure.lateStoresUnsure }, { on := 14, ground := Ground.textOnly Departure.lateStoresUnsure }, { on := 15, ground := Ground.phase }, { on := 16, ground := Ground.textOnly Departure.lateStores }, { on := 17, ground := Ground.textOnly Departure.lateStores }, { on := 18, ground := Ground.textOnly Departure.lateStoresUnsure }, { on := 19, ground := Ground.phase }, { on := 20, ground := Ground.textOnly Departure.lateStoresUnsure }, { on := 21, ground := Ground.phase }], guard := none }) (v := ?v22n23) rfl (by kernel_rfl) (by kernel_rfl) (by kernel_rfl) (by decide) (fun _ _ _ h => h) (Or.inl ⟨by rfl, ?y22n23⟩) (fun _ => hHeld) ?r22n23
              case y22n23 => (intro w' hSw; go_simp; try with_reducible rfl)
              try simp only [Act.put, List.setIfInBounds_toArray, List.set_cons_zero, List.set_cons_succ]
              refine wpAnyD_take0 (i := 23) (oi := { dst := some 79, op := Op.fieldAddr 50 (Operand.tmp 78) 2, type := 0, pos := "law.go:70", after := #[{ on := 22, ground := Ground.data }, { on := 0, ground := Ground.phase }, { on := 1, ground := Ground.textOnly Departure.lateStores }, { on := 2, ground := Ground.phase }, { on := 3, ground := Ground.phase }, { on := 4, ground := Ground.phase }, { on := 5, ground := Ground.phase }, { on := 6, ground := Ground.phase }, { on := 7, ground := Ground.phase }, { on := 8, ground := Ground.phase }, { on := 9, ground := Ground.phase }, { on := 10, ground := Ground.phase }, { on := 11, ground := Ground.phase }, { on := 12, ground := Ground.textOnly Departure.lateStores }, { on := 13, ground := Ground.textOnly Departure.lateStoresUnsure }, { on := 14, ground := Ground.textOnly Departure.lateStoresUnsure }, { on := 15, ground := Ground.phase }, { on := 16, ground := Ground.textOnly Departure.lateStores }, { on := 17, ground := Ground.textOnly Departure.lateStores }, { on := 18, ground := Ground.textOnly Departure.lateStoresUnsure }, { on := 19, ground := Ground.phase }, { on := 20, ground := Ground.textOnly Departure.lateStoresUnsure }, { on := 21, ground := Ground.phase }], guard := none }) (v := ?v23n24) rfl (by kernel_rfl) (by kernel_rfl) (by kernel_rfl) (by decide) (fun _ _ _ h => h) (Or.inl ⟨by rfl, ?y23n24⟩) (fun _ => hHeld) ?r23n24
              case y23n24 => (intro w' hSw; go_simp; try with_reducible rfl)
              try simp only [Act.put, List.setIfInBounds_toArray, List.set_cons_zero, List.set_cons_succ]
              refine wpAnyD_ready (rs := [24]) (by kernel_rfl) (by simp) ?_
              refine AllReadyD.last (o := { dst := none, op := Op.store 24 (Operand.tmp 79) (Operand.tmp 67), type := 0, pos := "law.go:70", after := #[{ on := 23, ground := Ground.data }, { on := 11, ground := Ground.data }, { on := 21, ground := Ground.chain }, { on := 0, ground := Ground.phase }, { on := 1, ground := Ground.textOnly Departure.lateStores }, { on := 2, ground := Ground.phase }, { on := 3, ground := Ground.phase }, { on := 4, ground := Ground.phase }, { on := 5, ground := Ground.phase }, { on := 6, ground := Ground.phase }, { on := 7, ground := Ground.phase }, { on := 8, ground := Ground.phase }, { on := 9, ground := Ground.phase }, { on := 10, ground := Ground.phase }, { on := 11, ground := Ground.phase }, { on := 12, ground := Ground.textOnly Departure.lateStores }, { on := 13, ground := Ground.textOnly Departure.lateStoresUnsure }, { on := 14, ground := Ground.textOnly Departure.lateStoresUnsure }, { on := 15, ground := Ground.phase }, { on := 16, ground := Ground.textOnly Departure.lateStores }, { on := 17, ground := Ground.textOnly Departure.lateStores }, { on := 18, ground := Ground.textOnly Departure.lateStoresUnsure }, { on := 19, ground := Ground.phase }, { on := 20, ground := Ground.textOnly Departure.lateStoresUnsure }, { on := 21, ground := Ground.phase }], guard := none }) rfl (by kernel_rfl) (fun K hK => ?_) AllReadyD.nil
              go_simp
              refine hK.out _ _ ?_
              clear hK K
              try simp only [Act.put, List.setIfInBounds_toArray, List.set_cons_zero, List.set_cons_succ]
              refine wpAnyD_take0 (i := 25) (oi := { dst := some 80, op := Op.nilCheck (Operand.tmp 57), type := 0, pos := "law.go:70", after := #[{ on := 1, ground := Ground.data }, { on := 0, ground := Ground.phase }, { on := 1, ground := Ground.phase }, { on := 2, ground := Ground.phase }, { on := 3, ground := Ground.phase }, { on := 4, ground := Ground.phase }, { on := 5, ground := Ground.phase }, { on := 6, ground := Ground.phase }, { on := 7, ground := Ground.phase }, { on := 8, ground := Ground.phase }, { on := 9, ground := Ground.phase }, { on := 10, ground := Ground.phase }, { on := 11, ground := Ground.phase }, { on := 12, ground := Ground.phase }, { on := 13, ground := Ground.phase }, { on := 14, ground := Ground.phase }, { on := 15, ground := Ground.phase }, { on := 16, ground := Ground.phase }, { on := 17, ground := Ground.phase }, { on := 18, ground := Ground.phase }, { on := 19, ground := Ground.phase }, { on := 20, ground := Ground.phase }, { on := 21, ground := Ground.phase }, { on := 22, ground := Ground.phase }, { on := 23, ground := Ground.phase }, { on := 24, ground := Ground.phase }], guard := none }) (v := ?v25n25) rfl (by kernel_rfl) (by kernel_rfl) (by kernel_rfl) (by decide) (fun _ _ _ h => h) (Or.inl ⟨by rfl, ?y25n25⟩) (fun h => by cases h) ?r25n25
              case y25n25 => (intro w' hSw; go_simp; try with_reducible rfl)
              try simp only [Act.put, List.setIfInBounds_toArray, List.set_cons_zero, List.set_cons_succ]
              refine wpAnyD_take0 (i := 26) (oi := { dst := some 81, op := Op.fieldAddr 70 (Operand.tmp 80) 2, type := 0, pos := "law.go:70", after := #[{ on := 25, ground := Ground.data }, { on := 0, ground := Ground.phase }, { on := 1, ground := Ground.phase }, { on := 2, ground := Ground.phase }, { on := 3, ground := Ground.phase }, { on := 4, ground := Ground.phase }, { on := 5, ground := Ground.phase }, { on := 6, ground := Ground.phase }, { on := 7, ground := Ground.phase }, { on := 8, ground := Ground.phase }, { on := 9, ground := Ground.phase }, { on := 10, ground := Ground.phase }, { on := 11, ground := Ground.phase }, { on := 12, ground := Ground.phase }, { on := 13, ground := Ground.phase }, { on := 14, ground := Ground.phase }, { on := 15, ground := Ground.phase }, { on := 16, ground := Ground.phase }, { on := 17, ground := Ground.phase }, { on := 18, ground := Ground.phase }, { on := 19, ground := Ground.phase }, { on := 20, ground := Ground.phase }, { on := 21, ground := Ground.phase }, { on := 22, ground := Ground.phase }, { on := 23, ground := Ground.phase }, { on := 24, ground := Ground.phase }], guard := none }) (v := ?v26n26) rfl (by kernel_rfl) (by kernel_rfl) (by kernel_rfl) (by decide) (fun _ _ _ h => h) (Or.inl ⟨by rfl, ?y26n26⟩) (fun h => by cases h) ?r26n26
              case y26n26 => (intro w' hSw; go_simp; try with_reducible rfl)
              try simp only [Act.put, List.setIfInBounds_toArray, List.set_cons_zero, List.set_cons_succ]
              refine wpAnyD_ready (rs := [27]) (by kernel_rfl) (by simp) ?_
              refine AllReadyD.last (o := { dst := none, op := Op.store 24 (Operand.tmp 81) (Operand.tmp 77), type := 0, pos := "law.go:70", after := #[{ on := 26, ground := Ground.data }, { on := 21, ground := Ground.data }, { on := 24, ground := Ground.chain }, { on := 0, ground := Ground.phase }, { on := 1, ground := Ground.phase }, { on := 2, ground := Ground.phase }, { on := 3, ground := Ground.phase }, { on := 4, ground := Ground.phase }, { on := 5, ground := Ground.phase }, { on := 6, ground := Ground.phase }, { on := 7, ground := Ground.phase }, { on := 8, ground := Ground.phase }, { on := 9, ground := Ground.phase }, { on := 10, ground := Ground.phase }, { on := 11, ground := Ground.phase }, { on := 12, ground := Ground.phase }, { on := 13, ground := Ground.phase }, { on := 14, ground := Ground.phase }, { on := 15, ground := Ground.phase }, { on := 16, ground := Ground.phase }, { on := 17, ground := Ground.phase }, { on := 18, ground := Ground.phase }, { on := 19, ground := Ground.phase }, { on := 20, ground := Ground.phase }, { on := 21, ground := Ground.phase }, { on := 22, ground := Ground.phase }, { on := 23, ground := Ground.phase }, { on := 24, ground := Ground.phase }], guard := none }) rfl (by kernel_rfl) (fun K hK => ?_) AllReadyD.nil
              go_simp
              refine hK.out _ _ ?_
              clear hK K
              refine wpAnyD_done (by kernel_rfl) ?_ _
              go_wp2_with fail
              go_roundw
              case rel => exact ⟨k + 1, by omega, by go_num, END.out _ _ _ _ _ R21.out⟩
              case measure => simp [intOf]; omega
          · go_simp
            refine hK.out _ _ (KS.out _ ((R0.out.alloc _).drew).low) (fun hHeld => ?_)
            clear hK K
            try simp only [Act.put, List.setIfInBounds_toArray, List.set_cons_zero, List.set_cons_succ]
            refine wpAnyD_ready (rs := [10]) (by kernel_rfl) (by simp) ?_
            refine AllReadyD.cons (o := { dst := some 66, op := Op.buildSlice 24 1 #[(0, Operand.tmp 65)], type := 24, pos := "law.go:70", after := #[{ on := 9, ground := Ground.data }], guard := none }) rfl (fun K hK => ?_) AllReadyD.nil
            go_simp
            refine hK.out _ _ (KS.out _ (((R0.out.alloc _).alloc _).drew).low) (fun hHeld => ?_)
            clear hK K
            try simp only [Act.put, List.setIfInBounds_toArray, List.set_cons_zero, List.set_cons_succ]
            refine wpAnyD_ready (rs := [11]) (by kernel_rfl) (by simp) ?_
            refine AllReadyD.cons (o := { dst := some 67, op := Op.call { callee := Callee.builtin Builtin.append, args := #[Operand.tmp 61, Operand.tmp 66], argTypes := #[24, 24] }, type := 24, pos := "law.go:70", after := #[{ on := 5, ground := Ground.data }, { on := 10, ground := Ground.data }], guard := none }) rfl (fun K hK => ?_) AllReadyD.nil
            refine step_append_any _ rfl (.tmp 61) (.tmp 66) 24 rfl (w.heap.size + 2) 3 i0 _ 1 8 Tryd.underlying24 hi0 hz0 hz1 hz2 rfl (Nat.zero_lt_succ 0) (.slice A1 k c1) k ((bs.take k).map (Value.int .i64)) ?_ ?_ ((wr.heap.size + 1) + 1) (some ⟨(wr.heap.size + 1), 0, none⟩) 1 1 [.int .i64 x] ?_ ?_ ?_ ?_ ?_ ?_ ?_
            · first | rfl | (simp [Act.eval]; done) | (simp [Act.eval, Act.put]; done)
            · exact (((R0.out.alloc (.cells #[.int .i64 x] 3)).alloc (.cells #[.int .i64 x] 3)).drew).o1
            · first | rfl | (simp [Act.eval]; done) | (simp [Act.eval, Act.put]; done)
            · exact ⟨rfl, fun _ => ⟨_, rfl, Nat.lt_succ_self _, news_one (by simp)⟩⟩
            · intro u hu; simp at hu; subst hu; rfl
            · unfold maxLen; omega
            · omega
            · exact (((R0.out.alloc (.cells #[.int .i64 x] 3)).alloc (.cells #[.int .i64 x] 3)).drew).big
            intro v11 w11 own11 gr11 at11
            have R11 := Lib.hid ((((R0.out.alloc (.cells #[.int .i64 x] 3)).alloc (.cells #[.int .i64 x] 3)).drew).app1 own11 gr11 at11 HTK.out)
            have far11 := gr11
            have cx : w11.cell? ⟨wr.heap.size, 0, none⟩ = some (.int .i64 x) := (far11.cell_far _ (by simp; omega) (fun h => by have := HR1.out _ h.symm; simp only at this; omega)).trans (by simp)
            obtain ⟨g11, cp11, hv11, _, _⟩ := own11.form (Nat.succ_pos k)
            subst hv11
            clear own11 at11
            refine hK.out _ _ (KS.out _ R11.out.low) (fun hHeld => ?_)
            clear hK K
            try simp only [Act.put, List.setIfInBounds_toArray, List.set_cons_zero, List.set_cons_succ]
            refine wpAnyD_ready (rs := [21]) (by kernel_rfl) (by simp) ?_
            refine AllReadyD.cons (o := { dst := some 77, op := Op.call { callee := Callee.builtin Builtin.append, args := #[Operand.tmp 71, Operand.tmp 76], argTypes := #[24, 24] }, type := 24, pos := "law.go:70", after := #[{ on := 15, ground := Ground.data }, { on := 20, ground := Ground.data }, { on := 11, ground := Ground.chain }], guard := none }) rfl (fun K hK => ?_) AllReadyD.nil
            refine step_append_any _ rfl (.tmp 71) (.tmp 76) 24 rfl (w.heap.size + 2) 3 i0 _ 1 8 Tryd.underlying24 hi0 hz0 hz1 hz2 rfl (Nat.zero_lt_succ 0) (.slice A2 k c2) k ((bs.take k).map (Value.int .i64)) ?_ ?_ (wr.heap.size + 1) (some ⟨wr.heap.size, 0, none⟩) 1 1 [.int .i64 x] ?_ ?_ ?_ ?_ ?_ ?_ ?_
            · first | rfl | (simp [Act.eval]; done) | (simp [Act.eval, Act.put]; done)
            · exact (R11.out).o2
            · first | rfl | (simp [Act.eval]; done) | (simp [Act.eval, Act.put]; done)
            · exact ⟨rfl, fun _ => ⟨_, rfl, Nat.lt_succ_self _, news_one cx⟩⟩
            · intro u hu; simp at hu; subst hu; rfl
            · unfold maxLen; omega
            · omega
            · exact (R11.out).big
            intro v21 w21 own21 gr21 at21
            have R21 := Lib.hid ((R11.out).app2 own21 gr21 at21 HTK.out)
            have far21 := gr21
            obtain ⟨g21, cp21, hv21, _, _⟩ := own21.form (Nat.succ_pos k)
            subst hv21
            clear own21 at21
            refine hK.out _ _ (KS.out _ R21.out.low) (fun hHeld => ?_)
            clear hK K
            try simp only [Act.put, List.setIfInBounds_toArray, List.set_cons_zero, List.set_cons_succ]
            obtain ⟨zz1, zz2⟩ := KZ.out _ R21.out.low
            obtain ⟨ss1, ss2, _⟩ := KS.out _ R21.out.low
            refine wpAnyD_take0 (i := 22) (oi := { dst := some 78, op := Op.nilCheck (Operand.tmp 56), type := 0, pos := "law.go:70", after := #[{ on := 0, ground := Ground.data }, { on := 0, ground := Ground.phase }, { on := 1, ground := Ground.textOnly Departure.lateStores }, { on := 2, ground := Ground.phase }, { on := 3, ground := Ground.phase }, { on := 4, ground := Ground.phase }, { on := 5, ground := Ground.phase }, { on := 6, ground := Ground.phase }, { on := 7, ground := Ground.phase }, { on := 8, ground := Ground.phase }, { on := 9, ground := Ground.phase }, { on := 10, ground := Ground.phase }, { on := 11, ground := Ground.phase }, { on := 12, ground := Ground.textOnly Departure.lateStores }, { on := 13, ground := Ground.textOnly Departure.lateStoresUnsure }, { on := 14, ground := Ground.textOnly Departure.lateStoresUnsure }, { on := 15, ground := Ground.phase }, { on := 16, ground := Ground.textOnly Departure.lateStores }, { on := 17, ground := Ground.textOnly Departure.lateStores }, { on := 18, ground := Ground.textOnly Departure.lateStoresUnsure }, { on := 19, ground := Ground.phase }, { on := 20, ground := Ground.textOnly Departure.lateStoresUnsure }, { on := 21, ground := Ground.phase }], guard := none }) (v := ?v22n27) rfl (by kernel_rfl) (by kernel_rfl) (by kernel_rfl) (by decide) (fun _ _ _ h => h) (Or.inl ⟨by rfl, ?y22n27⟩) (fun _ => hHeld) ?r22n27
            case y22n27 => (intro w' hSw; go_simp; try with_reducible rfl)
            try simp only [Act.put, List.setIfInBounds_toArray, List.set_cons_zero, List.set_cons_succ]
            refine wpAnyD_take0 (i := 23) (oi := { dst := some 79, op := Op.fieldAddr 50 (Operand.tmp 78) 2, type := 0, pos := "law.go:70", after := #[{ on := 22, ground := Ground.data }, { on := 0, ground := Ground.phase }, { on := 1, ground := Ground.textOnly Departure.lateStores }, { on := 2, ground := Ground.phase }, { on := 3, ground := Ground.phase }, { on := 4, ground := Ground.phase }, { on := 5, ground := Ground.phase }, { on := 6, ground := Ground.phase }, { on := 7, ground := Ground.phase }, { on := 8, ground := Ground.phase }, { on := 9, ground := Ground.phase }, { on := 10, ground := Ground.phase }, { on := 11, ground := Ground.phase }, { on := 12, ground := Ground.textOnly Departure.lateStores }, { on := 13, ground := Ground.textOnly Departure.lateStoresUnsure }, { on := 14, ground := Ground.textOnly Departure.lateStoresUnsure }, { on := 15, ground := Ground.phase }, { on := 16, ground := Ground.textOnly Departure.lateStores }, { on := 17, ground := Ground.textOnly Departure.lateStores }, { on := 18, ground := Ground.textOnly Departure.lateStoresUnsure }, { on := 19, ground := Ground.phase }, { on := 20, ground := Ground.textOnly Departure.lateStoresUnsure }, { on := 21, ground := Ground.phase }], guard := none }) (v := ?v23n28) rfl (by kernel_rfl) (by kernel_rfl) (by kernel_rfl) (by decide) (fun _ _ _ h => h) (Or.inl ⟨by rfl, ?y23n28⟩) (fun _ => hHeld) ?r23n28
            case y23n28 => (intro w' hSw; go_simp; try with_reducible rfl)
            try simp only [Act.put, List.setIfInBounds_toArray, List.set_cons_zero, List.set_cons_succ]
            refine wpAnyD_ready (rs := [24]) (by kernel_rfl) (by simp) ?_
            refine AllReadyD.last (o := { dst := none, op := Op.store 24 (Operand.tmp 79) (Operand.tmp 67), type := 0, pos := "law.go:70", after := #[{ on := 23, ground := Ground.data }, { on := 11, ground := Ground.data }, { on := 21, ground := Ground.chain }, { on := 0, ground := Ground.phase }, { on := 1, ground := Ground.textOnly Departure.lateStores }, { on := 2, ground := Ground.phase }, { on := 3, ground := Ground.phase }, { on := 4, ground := Ground.phase }, { on := 5, ground := Ground.phase }, { on := 6, ground := Ground.phase }, { on := 7, ground := Ground.phase }, { on := 8, ground := Ground.phase }, { on := 9, ground := Ground.phase }, { on := 10, ground := Ground.phase }, { on := 11, ground := Ground.phase }, { on := 12, ground := Ground.textOnly Departure.lateStores }, { on := 13, ground := Ground.textOnly Departure.lateStoresUnsure }, { on := 14, ground := Ground.textOnly Departure.lateStoresUnsure }, { on := 15, ground := Ground.phase }, { on := 16, ground := Ground.textOnly Departure.lateStores }, { on := 17, ground := Ground.textOnly Departure.lateStores }, { on := 18, ground := Ground.textOnly Departure.lateStoresUnsure }, { on := 19, ground := Ground.phase }, { on := 20, ground := Ground.textOnly Departure.lateStoresUnsure }, { on := 21, ground := Ground.phase }], guard := none }) rfl (by kernel_rfl) (fun K hK => ?_) AllReadyD.nil
            go_simp
            refine hK.out _ _ ?_
            clear hK K
            try simp only [Act.put, List.setIfInBounds_toArray, List.set_cons_zero, List.set_cons_succ]
            refine wpAnyD_take0 (i := 25) (oi := { dst := some 80, op := Op.nilCheck (Operand.tmp 57), type := 0, pos := "law.go:70", after := #[{ on := 1, ground := Ground.data }, { on := 0, ground := Ground.phase }, { on := 1, ground := Ground.phase }, { on := 2, ground := Ground.phase }, { on := 3, ground := Ground.phase }, { on := 4, ground := Ground.phase }, { on := 5, ground := Ground.phase }, { on := 6, ground := Ground.phase }, { on := 7, ground := Ground.phase }, { on := 8, ground := Ground.phase }, { on := 9, ground := Ground.phase }, { on := 10, ground := Ground.phase }, { on := 11, ground := Ground.phase }, { on := 12, ground := Ground.phase }, { on := 13, ground := Ground.phase }, { on := 14, ground := Ground.phase }, { on := 15, ground := Ground.phase }, { on := 16, ground := Ground.phase }, { on := 17, ground := Ground.phase }, { on := 18, ground := Ground.phase }, { on := 19, ground := Ground.phase }, { on := 20, ground := Ground.phase }, { on := 21, ground := Ground.phase }, { on := 22, ground := Ground.phase }, { on := 23, ground := Ground.phase }, { on := 24, ground := Ground.phase }], guard := none }) (v := ?v25n29) rfl (by kernel_rfl) (by kernel_rfl) (by kernel_rfl) (by decide) (fun _ _ _ h => h) (Or.inl ⟨by rfl, ?y25n29⟩) (fun h => by cases h) ?r25n29
            case y25n29 => (intro w' hSw; go_simp; try with_reducible rfl)
            try simp only [Act.put, List.setIfInBounds_toArray, List.set_cons_zero, List.set_cons_succ]
            refine wpAnyD_take0 (i := 26) (oi := { dst := some 81, op := Op.fieldAddr 70 (Operand.tmp 80) 2, type := 0, pos := "law.go:70", after := #[{ on := 25, ground := Ground.data }, { on := 0, ground := Ground.phase }, { on := 1, ground := Ground.phase }, { on := 2, ground := Ground.phase }, { on := 3, ground := Ground.phase }, { on := 4, ground := Ground.phase }, { on := 5, ground := Ground.phase }, { on := 6, ground := Ground.phase }, { on := 7, ground := Ground.phase }, { on := 8, ground := Ground.phase }, { on := 9, ground := Ground.phase }, { on := 10, ground := Ground.phase }, { on := 11, ground := Ground.phase }, { on := 12, ground := Ground.phase }, { on := 13, ground := Ground.phase }, { on := 14, ground := Ground.phase }, { on := 15, ground := Ground.phase }, { on := 16, ground := Ground.phase }, { on := 17, ground := Ground.phase }, { on := 18, ground := Ground.phase }, { on := 19, ground := Ground.phase }, { on := 20, ground := Ground.phase }, { on := 21, ground := Ground.phase }, { on := 22, ground := Ground.phase }, { on := 23, ground := Ground.phase }, { on := 24, ground := Ground.phase }], guard := none }) (v := ?v26n30) rfl (by kernel_rfl) (by kernel_rfl) (by kernel_rfl) (by decide) (fun _ _ _ h => h) (Or.inl ⟨by rfl, ?y26n30⟩) (fun h => by cases h) ?r26n30
            case y26n30 => (intro w' hSw; go_simp; try with_reducible rfl)
            try simp only [Act.put, List.setIfInBounds_toArray, List.set_cons_zero, List.set_cons_succ]
            refine wpAnyD_ready (rs := [27]) (by kernel_rfl) (by simp) ?_
            refine AllReadyD.last (o := { dst := none, op := Op.store 24 (Operand.tmp 81) (Operand.tmp 77), type := 0, pos := "law.go:70", after := #[{ on := 26, ground := Ground.data }, { on := 21, ground := Ground.data }, { on := 24, ground := Ground.chain }, { on := 0, ground := Ground.phase }, { on := 1, ground := Ground.phase }, { on := 2, ground := Ground.phase }, { on := 3, ground := Ground.phase }, { on := 4, ground := Ground.phase }, { on := 5, ground := Ground.phase }, { on := 6, ground := Ground.phase }, { on := 7, ground := Ground.phase }, { on := 8, ground := Ground.phase }, { on := 9, ground := Ground.phase }, { on := 10, ground := Ground.phase }, { on := 11, ground := Ground.phase }, { on := 12, ground := Ground.phase }, { on := 13, ground := Ground.phase }, { on := 14, ground := Ground.phase }, { on := 15, ground := Ground.phase }, { on := 16, ground := Ground.phase }, { on := 17, ground := Ground.phase }, { on := 18, ground := Ground.phase }, { on := 19, ground := Ground.phase }, { on := 20, ground := Ground.phase }, { on := 21, ground := Ground.phase }, { on := 22, ground := Ground.phase }, { on := 23, ground := Ground.phase }, { on := 24, ground := Ground.phase }], guard := none }) rfl (by kernel_rfl) (fun K hK => ?_) AllReadyD.nil
            go_simp
            refine hK.out _ _ ?_
            clear hK K
            refine wpAnyD_done (by kernel_rfl) ?_ _
            go_wp2_with fail
            go_roundw
            case rel => exact ⟨k + 1, by omega, by go_num, END.out _ _ _ _ _ R21.out⟩
            case measure => simp [intOf]; omega
        · have HK := Lib.hid (show k = min bs.length 8 by omega)
          have q1 : (k : Int) < (bs.length : Int) := by omega
          have q2 : ¬ (k : Int) < 8 := by omega
          generalize hN : bs.length = N at *
          have HN := Lib.hid hN
          clear hN
          go_wp2_with fail
          go_ret2
          exact ⟨_, _, rfl, rfl, rfl, fun M hM => by rw [← RR.out]; exact ⟨XF.out.frb (HK.out.trans (by rw [HN.out])) M hM, XG.out.frb (HK.out.trans (by rw [HN.out])) M hM⟩, X.out⟩
      · have HK := Lib.hid (show k = min bs.length 8 by omega)
        have q1 : ¬ (k : Int) < (bs.length : Int) := by omega
        generalize hN : bs.length = N at *
        have HN := Lib.hid hN
        clear hN
        go_wp2_with fail
        go_ret2
        exact ⟨_, _, rfl, rfl, rfl, fun M hM => by rw [← RR.out]; exact ⟨XF.out.frb (HK.out.trans (by rw [HN.out])) M hM, XG.out.frb (HK.out.trans (by rw [HN.out])) M hM⟩, X.out⟩
end Go.Proofs.YtoncebfhkoabaaaDoor
