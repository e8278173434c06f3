/- The document's Step: a call within, a return. -/
import Derived.Test.YtoncebfhkoabaaaDoorR2
import Derived.Test.YtoncebfhkoabaaaDoorQ0
import Derived.Test.YtoncebfhkoabaaaDoorL1
import Derived.Deep.RegionLawGrows
namespace Go.Proofs.YtoncebfhkoabaaaDoor
open Go.RowKit Go.Extern.Stop Go.Stop Go.Extern

theorem back_reads {w W : World} {A : Option Addr} {bk : List Int} (hB : BackIs w A bk) (hx : Ext w W) : Reads W W.heap.size 1 A bk.length (bk.map (Value.int .i64)) := by
  refine ⟨by simp, fun hn => ?_⟩
  obtain ⟨bb, bo, rfl, hc⟩ := hB (by intro e; subst e; simp at hn)
  have h0 := hc 0 hn
  exact ⟨_, rfl, Nat.lt_of_lt_of_le (World.block_lt_of_cell? _ _ h0) hx.size, fun j u hj => back_cells hB hx _ rfl j u hj⟩
section
variable (M : Nat → Prop) (b o bc off ccap : Nat) (l : List InsD) (r bk : List Int) (mv : Value) (w : World)

set_option maxRecDepth 100000 in
set_option maxHeartbeats 4000000 in
theorem rstep_full (k : Nat) (x1 x2 x3 v m wh : Int) (hF : FrB M w b o k r bk) (hi : InsAt w bc off l) (hlen : l.length ≤ 1000000) (hk : k < l.length) (hx : l[k] = ⟨15, x1, x2, x3, v, m, wh⟩) (hv : rightF ⟨15, x1, x2, x3, v, 0, 0⟩ l.length true = true) (h8 : 8 ≤ bk.length) (h9 : bk.length ≤ 1000) :
    Calls Tryd.prog 11 #[.pointer (some ⟨b, o, none⟩), .slice (some ⟨bc, off, none⟩) l.length ccap, mv] w (RStepPost M w b o 3 k r bk) := by
  have HF0 := Lib.hid hF
  obtain ⟨A2, cap, hFr, hB, hcap, hM⟩ := hF
  have h0 := hFr.pc
  obtain ⟨c0, c1, c2, c3, c4, c5, c6⟩ := hi k hk
  rw [hx] at c0 c1 c2 c3 c4 c5 c6
  have lb0 := World.block_lt_of_cell? _ _ h0
  have lb1 := World.block_lt_of_cell? _ _ c0
  have h1 : (k : Int) < (l.length : Int) := by omega
  have h2 : (0 : Int) ≤ (k : Int) := by omega
  have HV := Lib.hid hv
  have HF := Lib.hid hFr
  have HB := Lib.hid hB
  have HM := Lib.hid hM
  clear hFr hB hM hv hx hi
  simp only at c0 c1 c2 c3 c4 c5 c6
  have hbk := HF.out.back
  unfold RStepPost
  generalize hn : bk.length = n at *
  have HN := Lib.hid hn
  clear hn
  go_enter Tryd.func11, Tryd.ntmps11
  go_wp2_with (first
      | (go_at_call 33; refine (right_any ⟨15, x1, x2, x3, v, 0, 0⟩ l.length _ (by omega) (by omega) _).mono ?_; rintro e w1 ⟨rfl, hb⟩; rw [HV.out]
         have hX : Ext w w1 := ((ext1 w _).alloc (by simp) _).trans (hb.mono (by simp; omega))
         have d0 := (hX.cell (p := ⟨b, o, none⟩) lb0).trans h0
         have t0 : w1.cell? ⟨w.heap.size, 0, none⟩ = some (.int .i64 15) := (hb.cell (p := ⟨w.heap.size, 0, none⟩) (by simp <;> omega)).trans (by simp)
         have t1 : w1.cell? ⟨w.heap.size, 1, none⟩ = some (.int .i64 x1) := (hb.cell (p := ⟨w.heap.size, 1, none⟩) (by simp <;> omega)).trans (by simp)
         have t2 : w1.cell? ⟨w.heap.size, 2, none⟩ = some (.int .i64 x2) := (hb.cell (p := ⟨w.heap.size, 2, none⟩) (by simp <;> omega)).trans (by simp)
         have t3 : w1.cell? ⟨w.heap.size, 3, none⟩ = some (.int .i64 x3) := (hb.cell (p := ⟨w.heap.size, 3, none⟩) (by simp <;> omega)).trans (by simp)
         have t4 : w1.cell? ⟨w.heap.size, 4, none⟩ = some (.int .u64 v) := (hb.cell (p := ⟨w.heap.size, 4, none⟩) (by simp <;> omega)).trans (by simp)
         have t5 : w1.cell? ⟨w.heap.size, 5, none⟩ = some (.int .i64 m) := (hb.cell (p := ⟨w.heap.size, 5, none⟩) (by simp <;> omega)).trans (by simp)
         have t6 : w1.cell? ⟨w.heap.size, 6, none⟩ = some (.int .i64 wh) := (hb.cell (p := ⟨w.heap.size, 6, none⟩) (by simp <;> omega)).trans (by simp)
         have hsz1 : w.heap.size < w1.heap.size := World.block_lt_of_cell? _ _ t0
         have bk1 := (hX.cell (p := ⟨b, o + 33, none⟩) lb0).trans hbk
         have X1 := Lib.hid hX
         clear hb hX h0))
  go_ret2
  exact ⟨rfl, HF0.out.ext X1.out, Upto.of_ext X1.out⟩
set_option maxRecDepth 100000 in
set_option maxHeartbeats 4000000 in
theorem rstep_home (k : Nat) (x1 x2 x3 v m wh : Int) (hbk0 : bk = []) (hF : FrB M w b o k r bk) (hi : InsAt w bc off l) (hlen : l.length ≤ 1000000) (hk : k < l.length) (hx : l[k] = ⟨16, x1, x2, x3, v, m, wh⟩) (hv : rightF ⟨16, x1, x2, x3, v, 0, 0⟩ l.length true = true) :
    Calls Tryd.prog 11 #[.pointer (some ⟨b, o, none⟩), .slice (some ⟨bc, off, none⟩) l.length ccap, mv] w (RStepPost M w b o 2 k r bk) := by
  subst hbk0
  have HF0 := Lib.hid hF
  obtain ⟨A2, cap, hFr, hB, hcap, hM⟩ := hF
  have h0 := hFr.pc
  obtain ⟨c0, c1, c2, c3, c4, c5, c6⟩ := hi k hk
  rw [hx] at c0 c1 c2 c3 c4 c5 c6
  have lb0 := World.block_lt_of_cell? _ _ h0
  have lb1 := World.block_lt_of_cell? _ _ c0
  have h1 : (k : Int) < (l.length : Int) := by omega
  have h2 : (0 : Int) ≤ (k : Int) := by omega
  have HV := Lib.hid hv
  have HF := Lib.hid hFr
  have HB := Lib.hid hB
  have HM := Lib.hid hM
  clear hFr hB hM hv hx hi
  simp only at c0 c1 c2 c3 c4 c5 c6
  have hbk := HF.out.back
  simp only [List.length_nil] at hbk
  unfold RStepPost
  go_enter Tryd.func11, Tryd.ntmps11
  go_wp2_with (first
      | (go_at_call 33; refine (right_any ⟨16, x1, x2, x3, v, 0, 0⟩ l.length _ (by omega) (by omega) _).mono ?_; rintro e w1 ⟨rfl, hb⟩; rw [HV.out]
         have hX : Ext w w1 := ((ext1 w _).alloc (by simp) _).trans (hb.mono (by simp; omega))
         have d0 := (hX.cell (p := ⟨b, o, none⟩) lb0).trans h0
         have t0 : w1.cell? ⟨w.heap.size, 0, none⟩ = some (.int .i64 16) := (hb.cell (p := ⟨w.heap.size, 0, none⟩) (by simp <;> omega)).trans (by simp)
         have t1 : w1.cell? ⟨w.heap.size, 1, none⟩ = some (.int .i64 x1) := (hb.cell (p := ⟨w.heap.size, 1, none⟩) (by simp <;> omega)).trans (by simp)
         have t2 : w1.cell? ⟨w.heap.size, 2, none⟩ = some (.int .i64 x2) := (hb.cell (p := ⟨w.heap.size, 2, none⟩) (by simp <;> omega)).trans (by simp)
         have t3 : w1.cell? ⟨w.heap.size, 3, none⟩ = some (.int .i64 x3) := (hb.cell (p := ⟨w.heap.size, 3, none⟩) (by simp <;> omega)).trans (by simp)
         have t4 : w1.cell? ⟨w.heap.size, 4, none⟩ = some (.int .u64 v) := (hb.cell (p := ⟨w.heap.size, 4, none⟩) (by simp <;> omega)).trans (by simp)
         have t5 : w1.cell? ⟨w.heap.size, 5, none⟩ = some (.int .i64 m) := (hb.cell (p := ⟨w.heap.size, 5, none⟩) (by simp <;> omega)).trans (by simp)
         have t6 : w1.cell? ⟨w.heap.size, 6, none⟩ = some (.int .i64 wh) := (hb.cell (p := ⟨w.heap.size, 6, none⟩) (by simp <;> omega)).trans (by simp)
         have hsz1 : w.heap.size < w1.heap.size := World.block_lt_of_cell? _ _ t0
         have bk1 := (hX.cell (p := ⟨b, o + 33, none⟩) lb0).trans hbk
         have X1 := Lib.hid hX
         clear hb hX h0))
  go_ret2
  exact ⟨rfl, HF0.out.ext X1.out, Upto.of_ext X1.out⟩
set_option maxRecDepth 100000 in
set_option maxHeartbeats 4000000 in
theorem rstep_jsr (k : Nat) (x1 x2 x3 v m wh : Int) (hF : FrB M w b o k r bk) (hi : InsAt w bc off l) (hlen : l.length ≤ 1000000) (hk : k < l.length) (hx : l[k] = ⟨15, x1, x2, x3, v, m, wh⟩) (hv : rightF ⟨15, x1, x2, x3, v, 0, 0⟩ l.length true = true) (h8 : bk.length < 8) (hv0 : 0 ≤ v) (hv1 : v ≤ 1000000000000) (hMlt : ∀ q, M q → q < w.heap.size) :
    Calls Tryd.prog 11 #[.pointer (some ⟨b, o, none⟩), .slice (some ⟨bc, off, none⟩) l.length ccap, mv] w (RStepPost M w b o 0 v r (bk ++ [(k : Int) + 1])) := by
  have HF0 := Lib.hid hF
  obtain ⟨A2, cap, hFr, hB, hcap, hM⟩ := hF
  have h0 := hFr.pc
  obtain ⟨c0, c1, c2, c3, c4, c5, c6⟩ := hi k hk
  rw [hx] at c0 c1 c2 c3 c4 c5 c6
  have lb0 := World.block_lt_of_cell? _ _ h0
  have lb1 := World.block_lt_of_cell? _ _ c0
  have h1 : (k : Int) < (l.length : Int) := by omega
  have h2 : (0 : Int) ≤ (k : Int) := by omega
  have HV := Lib.hid hv
  have HF := Lib.hid hFr
  have HB := Lib.hid hB
  have HM := Lib.hid hM
  clear hFr hB hM hv hx hi
  simp only at c0 c1 c2 c3 c4 c5 c6
  have hbk := HF.out.back
  have hz33 := Lib.hid (show ∀ W, Ext w W → W.frozen? ⟨b, o, none⟩ = false ∧ W.frozen? ⟨b, o + 33, none⟩ = false from fun W hX => ⟨(HF.out.ext hX).fz0, (HF.out.ext hX).fz 33 (by omega)⟩)
  unfold RStepPost FrB
  generalize hn : bk.length = n at *
  have HN := Lib.hid hn
  clear hn
  go_enter Tryd.func11, Tryd.ntmps11
  go_upto_region 34 with (first
      | (go_at_call 33; refine (right_any ⟨15, x1, x2, x3, v, 0, 0⟩ l.length _ (by omega) (by omega) _).mono ?_; rintro e w1 ⟨rfl, hb⟩; rw [HV.out]
         have hX : Ext w w1 := ((ext1 w _).alloc (by simp) _).trans (hb.mono (by simp; omega))
         have d0 := (hX.cell (p := ⟨b, o, none⟩) lb0).trans h0
         have t0 : w1.cell? ⟨w.heap.size, 0, none⟩ = some (.int .i64 15) := (hb.cell (p := ⟨w.heap.size, 0, none⟩) (by simp <;> omega)).trans (by simp)
         have t1 : w1.cell? ⟨w.heap.size, 1, none⟩ = some (.int .i64 x1) := (hb.cell (p := ⟨w.heap.size, 1, none⟩) (by simp <;> omega)).trans (by simp)
         have t2 : w1.cell? ⟨w.heap.size, 2, none⟩ = some (.int .i64 x2) := (hb.cell (p := ⟨w.heap.size, 2, none⟩) (by simp <;> omega)).trans (by simp)
         have t3 : w1.cell? ⟨w.heap.size, 3, none⟩ = some (.int .i64 x3) := (hb.cell (p := ⟨w.heap.size, 3, none⟩) (by simp <;> omega)).trans (by simp)
         have t4 : w1.cell? ⟨w.heap.size, 4, none⟩ = some (.int .u64 v) := (hb.cell (p := ⟨w.heap.size, 4, none⟩) (by simp <;> omega)).trans (by simp)
         have t5 : w1.cell? ⟨w.heap.size, 5, none⟩ = some (.int .i64 m) := (hb.cell (p := ⟨w.heap.size, 5, none⟩) (by simp <;> omega)).trans (by simp)
         have t6 : w1.cell? ⟨w.heap.size, 6, none⟩ = some (.int .i64 wh) := (hb.cell (p := ⟨w.heap.size, 6, none⟩) (by simp <;> omega)).trans (by simp)
         have hsz1 : w.heap.size < w1.heap.size := World.block_lt_of_cell? _ _ t0
         have bk1 := (hX.cell (p := ⟨b, o + 33, none⟩) lb0).trans hbk
         have X1 := Lib.hid hX
         clear hb hX h0))
  obtain ⟨z0, z33⟩ := hz33.out w1 X1.out
  clear c0 c1 c2 c3 c4 c5 c6 t0 t1 t2 t3 t5 t6
  obtain ⟨i0, hi0, hz0, hz1, hz2⟩ := info_parts Tryd.intInfo
  have lb1' : b < w1.heap.size := Nat.lt_of_lt_of_le lb0 X1.out.size
  have RD := Lib.hid (show ∀ W, Ext w W → Reads W W.heap.size 1 A2 n (bk.map (Value.int .i64)) from fun W hX => by rw [← HN.out]; exact back_reads HB.out hX)
  go_wp2_with (first
    | (at_builtin
       refine wpList_append_any _ rfl (.tmp 143) (.tmp 147) 24 rfl w1.heap.size 3 i0 _ 1 8 Tryd.underlying24 hi0 hz0 hz1 hz2 rfl (Nat.zero_lt_succ 0) (.slice (some ⟨w1.heap.size, 0, none⟩) 0 0) 0 [] rfl ?own (w1.heap.size + 1) A2 n cap (bk.map (Value.int .i64)) rfl ?rd ?one ?ml ?by8 ?base ?_
       case own => exact World.ownsRow_lit w1 #[] 0 (Nat.le_refl _) (Nat.zero_le _) rfl
       case rd => simpa using RD.out (w1.alloc (.cells #[] 3)) (X1.out.alloc X1.out.size _)
       case one => (intro u hu; obtain ⟨q, _, rfl⟩ := List.mem_map.1 hu; rfl)
       case ml => (unfold maxLen; omega)
       case by8 => omega
       case base => simp
       intro v1 w2 own1 gr1 _
       have hb2 : Below w1.heap.size (w1.alloc (.cells #[] 3)) w2 := (Below.refl _ _).grown gr1 (by simp) (by intro q hq; simp [Value.ownBlock] at hq; omega)
       have hX2 : Ext w1 w2 := ((ext1 w1 _).trans (hb2.mono (by simp)))
       have O1 := Lib.hid (by simpa using own1 : w2.ownsRow w1.heap.size 3 1 v1 n (bk.map (Value.int .i64)))
       have X2 := Lib.hid hX2
       have hsz2 := hX2.size
       clear own1 gr1 hb2 hX2)
    | (at_builtin
       go_must (refine wpList_append_any _ rfl (.tmp 148) (.tmp 150) 24 rfl w1.heap.size 3 i0 _ 1 8 Tryd.underlying24 hi0 hz0 hz1 hz2 rfl (Nat.zero_lt_succ 0) v1 n (bk.map (Value.int .i64)) rfl ?own (w2.heap.size + 1) (some ⟨w2.heap.size, 0, none⟩) 1 1 [.int .i64 ((k : Int) + 1)] rfl ?rd ?one ?ml ?by8 ?base ?_
                case own => exact O1.out.alloc _
                case rd => exact ⟨rfl, fun _ => ⟨_, rfl, by simp, news_one (by simp)⟩⟩
                case one => (intro u hu; simp at hu; subst hu; rfl)
                case ml => (unfold maxLen; omega)
                case by8 => omega
                case base => (simp; omega)
                intro v3 w3 own3 gr3 _
                have hb3 : Below w1.heap.size (w2.alloc (.cells #[.int .i64 ((k : Int) + 1)] 3)) w3 := (Below.refl _ _).grown gr3 (by simp; omega) (by intro q hq; exact (O1.out.lt q hq).1)
                have hX3 : Ext w w3 := X1.out.trans ((X2.out.trans ((((Below.refl _ _).alloc hsz2 _)).trans hb3)).mono X1.out.size)
                obtain ⟨g, cap3, rfl, hbg, hg3⟩ := own3.form (Nat.succ_pos n)
                obtain ⟨y0, y33⟩ := hz33.out w3 hX3
                have e0 := (hX3.cell (p := ⟨b, o, none⟩) lb0).trans HF.out.pc
                have e33 := (hX3.cell (p := ⟨b, o + 33, none⟩) lb0).trans hbk
                have e4 : w3.cell? ⟨w.heap.size, 4, none⟩ = some (.int .u64 v) := ((X2.out.trans ((((Below.refl _ _).alloc hsz2 _)).trans hb3)).cell (p := ⟨w.heap.size, 4, none⟩) hsz1).trans t4
                have hbg2 : b ≠ g := by omega
                have hcp := own_cap own3
                have O3 := Lib.hid own3
                have X3 := Lib.hid hX3
                clear own3 gr3 hb3 hX3)))
  go_ret2
  exact ⟨rfl, ⟨some ⟨g, 0, none⟩, cap3, by rw [List.length_append, HN.out]; exact ((HF.out.ext X3.out).setBack _ _ _).setPc _, back_own O3.out HN.out (p := ⟨b, _, none⟩) (q := ⟨b, _, none⟩) hbg2 hbg2 _ _, by rw [List.length_append, HN.out]; exact hcp, fun _ a ha hm => by injection ha with ha; subst ha; have h7 : g < w.heap.size := hMlt _ hm; have := X1.out.size; omega⟩, ((Upto.of_ext X3.out).setB _ _).setB _ _⟩
set_option maxRecDepth 100000 in
set_option maxHeartbeats 4000000 in
theorem rstep_ret (k : Nat) (bk' : List Int) (u x1 x2 x3 v m wh : Int) (hbk0 : bk = bk' ++ [u]) (hF : FrB M w b o k r bk) (hi : InsAt w bc off l) (hlen : l.length ≤ 1000000) (hk : k < l.length) (hx : l[k] = ⟨16, x1, x2, x3, v, m, wh⟩) (hv : rightF ⟨16, x1, x2, x3, v, 0, 0⟩ l.length true = true) (h9 : bk'.length ≤ 1000) (hMlt : ∀ q, M q → q < w.heap.size) :
    Calls Tryd.prog 11 #[.pointer (some ⟨b, o, none⟩), .slice (some ⟨bc, off, none⟩) l.length ccap, mv] w (RStepPost M w b o 0 u r bk') := by
  subst hbk0
  have HF0 := Lib.hid hF
  obtain ⟨A2, cap, hFr, hB, hcap, hM⟩ := hF
  have h0 := hFr.pc
  obtain ⟨c0, c1, c2, c3, c4, c5, c6⟩ := hi k hk
  rw [hx] at c0 c1 c2 c3 c4 c5 c6
  have lb0 := World.block_lt_of_cell? _ _ h0
  have lb1 := World.block_lt_of_cell? _ _ c0
  have h1 : (k : Int) < (l.length : Int) := by omega
  have h2 : (0 : Int) ≤ (k : Int) := by omega
  have HV := Lib.hid hv
  have HF := Lib.hid hFr
  have HB := Lib.hid hB
  have HM := Lib.hid hM
  clear hFr hB hM hv hx hi
  simp only at c0 c1 c2 c3 c4 c5 c6
  have hbk := HF.out.back
  simp only [List.length_append, List.length_cons, List.length_nil, Nat.zero_add] at hbk hcap
  have hz33 := Lib.hid (show ∀ W, Ext w W → W.frozen? ⟨b, o, none⟩ = false ∧ W.frozen? ⟨b, o + 33, none⟩ = false from fun W hX => ⟨(HF.out.ext hX).fz0, (HF.out.ext hX).fz 33 (by omega)⟩)
  obtain ⟨bb, bo, rfl, hcell⟩ := HB.out (by simp)
  have hu := hcell bk'.length (by simp)
  have e1 : (bk' ++ [u]).getD bk'.length 0 = u := by simp [List.getD_eq_getElem?_getD]
  rw [e1] at hu
  have HC := Lib.hid hcell
  clear hcell e1
  unfold RStepPost FrB
  generalize hn : bk'.length = n at *
  have HN := Lib.hid hn
  clear hn
  have hn1 : ((n : Int) + 1 == 0) = false := beq_eq_false_iff_ne.2 (by omega)
  have hn0 : (0 : Int) ≤ (n : Int) := by omega
  have hn2 : (n : Int) < (n : Int) + 1 := by omega
  go_enter Tryd.func11, Tryd.ntmps11
  go_upto_region 39 with (first
      | (go_at_call 33; refine (right_any ⟨16, x1, x2, x3, v, 0, 0⟩ l.length _ (by omega) (by omega) _).mono ?_; rintro e w1 ⟨rfl, hb⟩; rw [HV.out]
         have hX : Ext w w1 := ((ext1 w _).alloc (by simp) _).trans (hb.mono (by simp; omega))
         have d0 := (hX.cell (p := ⟨b, o, none⟩) lb0).trans h0
         have t0 : w1.cell? ⟨w.heap.size, 0, none⟩ = some (.int .i64 16) := (hb.cell (p := ⟨w.heap.size, 0, none⟩) (by simp <;> omega)).trans (by simp)
         have t1 : w1.cell? ⟨w.heap.size, 1, none⟩ = some (.int .i64 x1) := (hb.cell (p := ⟨w.heap.size, 1, none⟩) (by simp <;> omega)).trans (by simp)
         have t2 : w1.cell? ⟨w.heap.size, 2, none⟩ = some (.int .i64 x2) := (hb.cell (p := ⟨w.heap.size, 2, none⟩) (by simp <;> omega)).trans (by simp)
         have t3 : w1.cell? ⟨w.heap.size, 3, none⟩ = some (.int .i64 x3) := (hb.cell (p := ⟨w.heap.size, 3, none⟩) (by simp <;> omega)).trans (by simp)
         have t4 : w1.cell? ⟨w.heap.size, 4, none⟩ = some (.int .u64 v) := (hb.cell (p := ⟨w.heap.size, 4, none⟩) (by simp <;> omega)).trans (by simp)
         have t5 : w1.cell? ⟨w.heap.size, 5, none⟩ = some (.int .i64 m) := (hb.cell (p := ⟨w.heap.size, 5, none⟩) (by simp <;> omega)).trans (by simp)
         have t6 : w1.cell? ⟨w.heap.size, 6, none⟩ = some (.int .i64 wh) := (hb.cell (p := ⟨w.heap.size, 6, none⟩) (by simp <;> omega)).trans (by simp)
         have hsz1 : w.heap.size < w1.heap.size := World.block_lt_of_cell? _ _ t0
         have bk1 := (hX.cell (p := ⟨b, o + 33, none⟩) lb0).trans hbk
         have bu1 := (hX.cell (p := ⟨bb, bo + n, none⟩) (World.block_lt_of_cell? _ _ hu)).trans hu
         have X1 := Lib.hid hX
         clear hb hX h0))
  obtain ⟨z0, z33⟩ := hz33.out w1 X1.out
  clear c0 c1 c2 c3 c4 c5 c6 t0 t1 t2 t3 t4 t5 t6
  go_quiet (fail)
  go_wp2_with fail
  have HBp := Lib.hid (show BackIs w (some ⟨bb, bo, none⟩) bk' from fun _ => ⟨bb, bo, rfl, fun i hi => by
    have h4 := HC.out i (by simp; omega)
    have e2 : (bk' ++ [u]).getD i 0 = bk'.getD i 0 := by rw [List.getD_eq_getElem?_getD, List.getElem?_append_left hi, List.getD_eq_getElem?_getD]
    rw [e2] at h4; exact h4⟩)
  obtain ⟨i0, hi0, hz0, hz1, hz2⟩ := info_parts Tryd.intInfo
  have RD := Lib.hid (show ∀ W, Ext w W → Reads W W.heap.size 1 (some ⟨bb, bo, none⟩) n (bk'.map (Value.int .i64)) from fun W hX => by rw [← HN.out]; exact back_reads HBp.out hX)
  have XQ := Lib.hid (show Ext w (w1.drewN nq) from X1.out.trans ⟨rfl, rfl, rfl, Nat.le_refl _, fun _ _ => rfl⟩)
  have bkW : (w1.drewN nq).cell? ⟨b, o + 33, none⟩ = some (.slice (some ⟨bb, bo, none⟩) (n + 1) cap) := by simpa using bk1
  have d0W : (w1.drewN nq).cell? ⟨b, o, none⟩ = some (.int .i64 k) := by simpa using d0
  generalize w1.drewN nq = W at XQ bkW d0W ⊢
  clear bk1 d0 z0 z33 hsz1 X1
  have lb1' : b < W.heap.size := Nat.lt_of_lt_of_le lb0 XQ.out.size
  have XD := Lib.hid (show Ext w ((W.alloc (.cells #[] 3)).drew) from (XQ.out.alloc XQ.out.size _).drew)
  have hcap' : (n : Int) ≤ (cap : Int) := by omega
  have hwn : IntKind.i64.wrap (n : Int) = (n : Int) := IntWalk.i64_in _ (by omega)
  clear bu1 hu
  go_region_law (refine step_append_any _ rfl (.tmp 178) (.tmp 189) 24 rfl W.heap.size 3 i0 _ 1 8 Tryd.underlying24 hi0 hz0 hz1 hz2 rfl (Nat.zero_lt_succ 0) (.slice (some ⟨W.heap.size, 0, none⟩) 0 0) 0 [] ?_ ?_ (W.heap.size + 1) (some ⟨bb, bo, none⟩) n cap (bk'.map (Value.int .i64)) ?_ ?_ ?_ ?_ ?_ ?_ ?_
                 · first | rfl | (simp [Act.eval]; done) | (simp [Act.eval, Act.put]; done)
                 · exact World.ownsRow_lit W #[] 0 (Nat.le_refl _) (Nat.zero_le _) rfl
                 · first | rfl | (simp [Act.eval]; done) | (simp [Act.eval, Act.put]; done)
                 · have h := RD.out _ XD.out; simpa using h
                 · intro q hq; obtain ⟨y, _, rfl⟩ := List.mem_map.1 hq; rfl
                 · unfold maxLen; omega
                 · omega
                 · simp
                 intro v1 w2 own1 gr1 _
                 have hex : ∃ A' c', v1 = .slice A' n c' ∧ (n ≠ 0 → ∀ a, A' = some a → W.heap.size ≤ a.block) := by
                   obtain ⟨_, ⟨rfl, h0⟩ | ⟨g, cp, cur, rfl, hbg, _, _, _⟩⟩ := own1
                   · have : n = 0 := by omega
                     exact ⟨none, 0, by rw [this], fun h => absurd this h⟩
                   · exact ⟨some ⟨g, 0, none⟩, cp, by rw [Nat.zero_add], fun _ a ha => by cases ha; exact hbg⟩
                 obtain ⟨A', c', rfl, hA'⟩ := hex
                 have hb2 : Below W.heap.size ((W.alloc (.cells #[] 3)).drew) w2 := (Below.refl _ _).grown gr1 (by simp) (by intro q hq; simp [Value.ownBlock] at hq; omega)
                 have hX2 : Ext w w2 := XD.out.trans (hb2.mono XQ.out.size)
                 obtain ⟨y0, y33⟩ := hz33.out w2 hX2
                 have q0 := (hX2.cell (p := ⟨b, o, none⟩) lb0).trans HF.out.pc
                 have q33 := (hX2.cell (p := ⟨b, o + 33, none⟩) lb0).trans hbk
                 have O1 := Lib.hid (by simpa using own1 : w2.ownsRow W.heap.size 3 1 (.slice A' n c') n (bk'.map (Value.int .i64)))
                 have X2 := Lib.hid hX2
                 have HA' := Lib.hid hA'
                 clear own1 gr1 hb2 hX2 hA')
  all_goals
    go_wp2_with fail
    go_ret2
    refine ⟨rfl, ⟨A', c', ((HF.out.ext X2.out).setBack _ _ _).setPc _, ?_, own_cap O1.out, ?_⟩, ((Upto.of_ext X2.out).setB _ _).setB _ _⟩
    · intro hne
      have hn : 0 < n := by rw [← HN.out]; cases bk' with | nil => exact absurd rfl hne | cons _ _ => simp
      obtain ⟨g, cp, hv, hbg, _⟩ := O1.out.form hn
      have hA : A' = some ⟨g, 0, none⟩ := by injection hv
      subst hA
      refine ⟨g, 0, rfl, fun i hi => ?_⟩
      rw [World.cell?_setCell_far _ _ _ _ (by simp; omega), World.cell?_setCell_far _ _ _ _ (by simp; omega)]
      have hx := O1.out.cells (g := g) rfl i (.int .i64 (bk'.getD i 0)) (by rw [List.getElem?_map, List.getElem?_eq_getElem hi, List.getD_eq_getElem?_getD, List.getElem?_eq_getElem hi]; rfl)
      unfold Addr.add at hx
      by_cases h0 : i = 0
      · subst h0; simpa using hx
      · rw [if_neg h0] at hx; exact hx
    · intro hne a ha hm
      have hn : n ≠ 0 := by rw [← HN.out]; intro h; exact hne (List.eq_nil_of_length_eq_zero h)
      have h1 := HA'.out hn a ha
      have h2 := hMlt _ hm
      have h3 := XQ.out.size
      omega
end
end Go.Proofs.YtoncebfhkoabaaaDoor
