/- Walk of vm.jump. -/
import Derived.Test.YtoncebfhkoabaaaDoorV1
import Derived.Deep.QuietTactic
import Derived.BigQuiet
import Derived.Deep.RegionLawGrows
import Derived.Deep.AppendLies
import Derived.Deep.RegionHeld3
namespace Go.Proofs.YtoncebfhkoabaaaDoor
open Go.RowKit

theorem Tryd.intInfo : (Tryd.prog.info? 3).map (fun i => (i.zero, i.size, i.bytes)) = some (some (.int .i64 0), 1, 8) := by kernel_rfl
abbrev insA (op a b c v m wh : Int) : Value := .agg #[.int .i64 op, .int .i64 a, .int .i64 b, .int .i64 c, .int .u64 v, .int .i64 m, .int .i64 wh]
theorem news_one {W : World} {a : Addr} {v : Value} (h : W.cell? a = some v) : ∀ j u, [v][j]? = some u → W.cell? (a.add j) = some u := by
  intro j u hj
  cases j with
  | zero => simp only [List.getElem?_cons_zero, Option.some.injEq] at hj; subst hj; simpa [Addr.add] using h
  | succ j => simp at hj
theorem back_cells {w W : World} {A : Option Addr} {bk : List Int} (hB : BackIs w A bk) (hx : Ext w W) (a : Addr) (ha : A = some a) (j : Nat) (u : Value) (hj : (bk.map (Value.int .i64))[j]? = some u) : W.cell? (a.add j) = some u := by
  have hlt : j < bk.length := by simpa using (List.getElem?_eq_some_iff.1 hj).1
  obtain ⟨bb, bo, h, hc⟩ := hB (by intro e; subst e; simp at hlt)
  rw [ha] at h
  injection h with h
  subst h
  have h1 := hc j hlt
  have e : u = .int .i64 (bk.getD j 0) := by
    rw [List.getElem?_map, List.getElem?_eq_getElem hlt] at hj
    simp only [Option.map_some, Option.some.injEq] at hj
    rw [← hj, List.getD_eq_getElem?_getD, List.getElem?_eq_getElem hlt, Option.getD_some]
  rw [← e] at h1
  have h2 := (hx.cell (p := ⟨bb, bo + j, none⟩) (World.block_lt_of_cell? _ _ h1)).trans h1
  unfold Addr.add
  by_cases h0 : j = 0
  · subst h0; simpa using h2
  · rw [if_neg h0]; exact h2
theorem own_cap {W : World} {base e size n c : Nat} {A : Option Addr} {xs : List Value} (h : W.ownsRow base e size (.slice A n c) n xs) : n ≤ c := by
  rcases h.2 with ⟨h, h0⟩ | ⟨g, cap, cur, hv, _, _, hnc, _⟩
  · omega
  · injection hv with _ _ h3; omega
theorem back_own {W : World} {base : Nat} {bk : List Int} {u : Int} {g c n : Nat} (h : W.ownsRow base 3 1 (.slice (some ⟨g, 0, none⟩) (n + 1) c) (n + 1) (bk.map (Value.int .i64) ++ [.int .i64 u])) (_hn : bk.length = n) {p q : Addr} (hp : p.block ≠ g) (hq : q.block ≠ g) (x y : Value) : BackIs ((W.setCell p x).setCell q y) (some ⟨g, 0, none⟩) (bk ++ [u]) := by
  intro _
  refine ⟨g, 0, rfl, fun i hi => ?_⟩
  rw [World.cell?_setCell_far _ _ _ _ (by simpa using hq), World.cell?_setCell_far _ _ _ _ (by simpa using hp)]
  have hx := h.cells (g := g) rfl i (.int .i64 ((bk ++ [u]).getD i 0)) (by
    rw [show bk.map (Value.int .i64) ++ [Value.int .i64 u] = (bk ++ [u]).map (Value.int .i64) by simp, List.getElem?_map, List.getElem?_eq_getElem hi, List.getD_eq_getElem?_getD, List.getElem?_eq_getElem hi]
    rfl)
  unfold Addr.add at hx
  by_cases h0 : i = 0
  · subst h0; simpa using hx
  · rw [if_neg h0] at hx; exact hx
section
variable (b o : Nat) (pc : Int) (r : List Int) (A : Option Addr) (n cap : Nat) (x1 x2 x3 v m wh : Int) (w : World)

theorem jump_ret0 (hF : FrAt w b o pc r A 0 cap) :
    Calls Tryd.prog 27 #[.pointer (some ⟨b, o, none⟩), insA 16 x1 x2 x3 v m wh] w fun e w' => e = .returned (.int .i64 2) ∧ Ext w w' := by
  have h2 := hF.back
  have hlt := hF.lt
  go_enter Tryd.func27, Tryd.ntmps27
  go_wp2_with fail
  go_ret
  exact ⟨rfl, ext1 _ _⟩

theorem jump_ret (bb bo : Nat) (k : Nat) (u : Int) (hk : k < 1000) (hF : FrAt w b o pc r (some ⟨bb, bo, none⟩) (k + 1) cap) (hc : k + 1 ≤ cap) (hu : w.cell? ⟨bb, bo + k, none⟩ = some (.int .i64 u)) :
    Calls Tryd.prog 27 #[.pointer (some ⟨b, o, none⟩), insA 16 x1 x2 x3 v m wh] w fun e w' => e = .returned (.int .i64 0) ∧ FrAt w' b o u r (some ⟨bb, bo, none⟩) k cap ∧ Upto (· = b) w w' := by
  have F := Lib.hid hF
  have h2 := hF.back
  have hz := hF.fz0
  have hz3 := hF.fz 33 (by omega)
  have h0 := hF.pc
  have hlt := hF.lt
  have hlb := World.block_lt_of_cell? _ _ hu
  clear hF
  go_enter Tryd.func27, Tryd.ntmps27
  go_wp2_with fail
  go_ret
  exact ⟨rfl, ((F.out.setPc u).setBack _ _ _).ext (ext1 _ _), (((Upto.refl _ _).setB _ _).setB _ _).alloc _⟩

theorem jump_jmp (hF : FrAt w b o pc r A n cap) (h0 : 0 ≤ v) (h1 : v ≤ 1000000000000) :
    Calls Tryd.prog 27 #[.pointer (some ⟨b, o, none⟩), insA 12 x1 x2 x3 v m wh] w fun e w' => e = .returned (.int .i64 0) ∧ FrAt w' b o v r A n cap ∧ Upto (· = b) w w' := by
  have F := Lib.hid hF
  have h2 := hF.back
  have hz := hF.fz0
  have h0' := hF.pc
  have hlt := hF.lt
  clear hF
  go_enter Tryd.func27, Tryd.ntmps27
  go_wp2_with fail
  go_ret
  exact ⟨rfl, (F.out.setPc v).ext (ext1 _ _), ((Upto.refl _ _).setB _ _).alloc _⟩

/-- A jump if the register is 0 (13), or if it is not (14). -/
def jumps (op v : Int) : Bool := (v == 0) == (op == 13)
theorem jump_cond (op : Int) (hop : op = 13 ∨ op = 14) (hF : FrAt w b o pc r A n cap) (h0 : 0 ≤ v) (h1 : v ≤ 1000000000000) (hp0 : 0 ≤ pc) (hp1 : pc ≤ 1000000000000) (hx0 : 0 ≤ x1) (hx1 : x1 < 32) :
    Calls Tryd.prog 27 #[.pointer (some ⟨b, o, none⟩), insA op x1 x2 x3 v m wh] w fun e w' => e = .returned (.int .i64 0) ∧ FrAt w' b o (if jumps op (r.getD x1.toNat 0) then v else pc + 1) r A n cap ∧ Upto (· = b) w w' := by
  have F := Lib.hid hF
  have h2 := hF.back
  have hz := hF.fz0
  have h0' := hF.pc
  have hr := hF.r x1.toNat (by omega)
  have hlt := hF.lt
  clear hF
  unfold jumps
  generalize r.getD x1.toNat 0 = u at hr ⊢
  rcases hop with rfl | rfl
  · by_cases hu : u = 0
    · have hb : (u == 0) = true := by simp [hu]
      rw [hb]
      simp only [BEq.rfl, if_true]
      clear hu
      go_enter Tryd.func27, Tryd.ntmps27
      go_wp2_with fail
      go_quiet (fail)
      go_wp2_with fail
      go_ret
      exact ⟨rfl, ((F.out.ext (ext1 _ _)).drewN _).setPc _, (((Upto.refl _ _).alloc _).drewN _).setB _ _⟩
    · have hb : (u == 0) = false := beq_eq_false_iff_ne.2 hu
      rw [hb]
      rw [if_neg (by decide)]
      clear hu
      go_enter Tryd.func27, Tryd.ntmps27
      go_wp2_with fail
      go_quiet (fail)
      go_wp2_with fail
      go_ret
      exact ⟨rfl, ((F.out.ext (ext1 _ _)).drewN _).setPc _, (((Upto.refl _ _).alloc _).drewN _).setB _ _⟩
  · by_cases hu : u = 0
    · have hb : (u == 0) = true := by simp [hu]
      rw [hb]
      rw [if_neg (by decide)]
      clear hu
      go_enter Tryd.func27, Tryd.ntmps27
      go_wp2_with fail
      go_quiet (fail)
      go_wp2_with fail
      go_ret
      exact ⟨rfl, ((F.out.ext (ext1 _ _)).drewN _).setPc _, (((Upto.refl _ _).alloc _).drewN _).setB _ _⟩
    · have hb : (u == 0) = false := beq_eq_false_iff_ne.2 hu
      rw [hb]
      rw [if_pos (by decide)]
      clear hu
      go_enter Tryd.func27, Tryd.ntmps27
      go_wp2_with fail
      go_quiet (fail)
      go_wp2_with fail
      go_ret
      exact ⟨rfl, ((F.out.ext (ext1 _ _)).drewN _).setPc _, (((Upto.refl _ _).alloc _).drewN _).setB _ _⟩

theorem jump_jsr_full (hF : FrAt w b o pc r A n cap) (hn : n ≤ 1000) (hn8 : 8 ≤ n) :
    Calls Tryd.prog 27 #[.pointer (some ⟨b, o, none⟩), insA 15 x1 x2 x3 v m wh] w fun e w' => e = .returned (.int .i64 3) ∧ Ext w w' := by
  have h2 := hF.back
  have hlt := hF.lt
  go_enter Tryd.func27, Tryd.ntmps27
  go_wp2_with fail
  go_ret
  exact ⟨rfl, ext1 _ _⟩

set_option maxRecDepth 100000 in
theorem jump_jsr (bk : List Int) (hF : FrAt w b o pc r A bk.length cap) (hB : BackIs w A bk) (h0 : 0 ≤ v) (h1 : v ≤ 1000000000000) (hn8 : bk.length < 8) (hp0 : 0 ≤ pc) (hp1 : pc ≤ 1000000000000) (hcap : bk.length ≤ cap) :
    Calls Tryd.prog 27 #[.pointer (some ⟨b, o, none⟩), insA 15 x1 x2 x3 v m wh] w fun e w' => e = .returned (.int .i64 0) ∧ ∃ A' cap', FrAt w' b o v r A' (bk.length + 1) cap' ∧ BackIs w' A' (bk ++ [pc + 1]) ∧ bk.length + 1 ≤ cap' ∧ Upto (· = b) w w' := by
  have F := Lib.hid hF
  have h2 := hF.back
  have hz := hF.fz0
  have h0' := hF.pc
  have hlt := hF.lt
  clear hF
  obtain ⟨i0, hi0, hz0, hz1, hz2⟩ := info_parts Tryd.intInfo
  have hz33 := F.out.fz 33 (by omega)
  have hw1 : IntKind.i64.wrap (pc + 1) = pc + 1 := IntWalk.i64_in _ (by omega)
  have HC := Lib.hid (show ∀ W, Ext w W → ∀ a, A = some a → ∀ j u, (bk.map (Value.int .i64))[j]? = some u → W.cell? (a.add j) = some u from fun W hx a ha j u hj => back_cells hB hx a ha j u hj)
  have HNo := Lib.hid (show A = none → bk.length = 0 ∧ bk.length = 0 from fun ha => by
    by_cases e : bk = []
    · subst e; exact ⟨rfl, rfl⟩
    · obtain ⟨_, _, h, _⟩ := hB e; rw [ha] at h; cases h)
  clear hB
  generalize hnn : bk.length = n at *
  have HN := Lib.hid hnn
  clear hnn
  go_enter Tryd.func27, Tryd.ntmps27
  go_wp2_with fail
  go_region_law (refine step_append_grows rfl (.tmp 51) (.tmp 57) 24 rfl 3 i0 (.int .i64 0) 1 8 Tryd.underlying24 hi0 hz0 hz1 hz2 rfl (by decide) A n n (bk.map (Value.int .i64)) ?_ HNo.out ?_ ?_ ⟨w.heap.size + 1, 0, none⟩ 1 1 [.int .i64 (pc + 1)] ?_ rfl ?_ ?_ ?_ ?_ ?_ ?_
                 · first | rfl | (simp [Act.eval]; done) | (simp [Act.eval, Act.put]; done)
                 · simp [HN.out]
                 · exact HC.out _ ((ext1 w _).alloc (by simp) _).drew
                 · first | rfl | (simp [Act.eval]; done) | (simp [Act.eval, Act.put]; done)
                 · exact news_one (by simp)
                 · simp [Value.oneCell']
                 · omega
                 · unfold maxLen; omega
                 · omega
                 intro v1 w1 own1 gr1
                 obtain ⟨g, cap1, rfl, hcap1, hlt1⟩ := own1.form (Nat.succ_pos n)
                 have hx1 : Ext w w1 := (((ext1 w _).alloc (by simp) _).drew).grown gr1 (by simp; omega) (fun k h => by cases h)
                 have k0 : w1.cell? ⟨b, o, none⟩ = some (.int .i64 pc) := (hx1.cell (p := ⟨b, o, none⟩) hlt).trans h0'
                 have k33 : w1.cell? ⟨b, o + 33, none⟩ = some (.slice A n cap) := (hx1.cell (p := ⟨b, o + 33, none⟩) hlt).trans h2
                 have z0 : w1.frozen? ⟨b, o, none⟩ = false := (hx1.frozen (p := ⟨b, o, none⟩) hlt).trans hz
                 have z33 : w1.frozen? ⟨b, o + 33, none⟩ = false := (hx1.frozen (p := ⟨b, o + 33, none⟩) hlt).trans hz33
                 have c4 : w1.cell? ⟨w.heap.size, 4, none⟩ = some (.int .u64 v) := by rw [gr1.cell_far _ (by simp; omega) (by simp)]; simp
                 have hbg : b ≠ g := by simp at hcap1; omega
                 have hcp := own_cap own1
                 have X1 := Lib.hid hx1
                 have O1 := Lib.hid own1
                 clear hx1 own1 gr1)
  all_goals
    go_wp2_with fail
    go_ret
    exact ⟨rfl, some ⟨g, 0, none⟩, cap1, (((F.out.ext X1.out).setBack _ _ _).setPc _), back_own O1.out HN.out (p := ⟨b, _, none⟩) (q := ⟨b, _, none⟩) hbg hbg _ _, hcp, ((Upto.of_ext X1.out).setB _ _).setB _ _⟩
end
end Go.Proofs.YtoncebfhkoabaaaDoor
