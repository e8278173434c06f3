/- Walk of vm.Step at what accesses no cell. -/
import Derived.Test.YtoncebfhkoabaaaDoorV2
import Derived.Test.YtoncebfhkoabaaaDoorV4
import Derived.Test.YtoncebfhkoabaaaDoorV5
import Derived.Deep.RegionWith
namespace Go.Proofs.YtoncebfhkoabaaaDoor
open Go.RowKit

/-- A frame, with its places to come back to; what may be written over lies in M. -/
def FrB (M : Nat → Prop) (w : World) (b o : Nat) (pc : Int) (r bk : List Int) : Prop :=
  ∃ A cap, FrAt w b o pc r A bk.length cap ∧ BackIs w A bk ∧ bk.length ≤ cap ∧ (bk ≠ [] → ∀ a, A = some a → ¬ M a.block)
theorem BackIs.upto {S : Nat → Prop} {w w' : World} {A : Option Addr} {bk : List Int} (h : BackIs w A bk) (hu : Upto S w w') (hs : bk ≠ [] → ∀ a, A = some a → ¬ S a.block) : BackIs w' A bk := by
  intro hn
  obtain ⟨b, o, e, hc⟩ := h hn
  refine ⟨b, o, e, fun i hi => ?_⟩
  exact (hu.cell (p := ⟨b, _, none⟩) (World.block_lt_of_cell? _ _ (hc i hi)) (hs hn ⟨b, o, none⟩ e)).trans (hc i hi)
theorem FrB.upto {M S : Nat → Prop} {w w' : World} {b o : Nat} {pc : Int} {r bk : List Int} (h : FrB M w b o pc r bk) (hu : Upto S w w') (hb : ¬ S b) (hS : ∀ k, S k → M k) : FrB M w' b o pc r bk := by
  obtain ⟨A, cap, hF, hB, hc, hM⟩ := h
  exact ⟨A, cap, hF.upto hu hb, hB.upto hu (fun hn a e hs => hM hn a e (hS _ hs)), hc, hM⟩
theorem FrB.ext {M : Nat → Prop} {w w' : World} {b o : Nat} {pc : Int} {r bk : List Int} (h : FrB M w b o pc r bk) (hx : Ext w w') : FrB M w' b o pc r bk := h.upto (S := fun _ => False) (Upto.of_ext hx) (fun h => h) (fun _ h => h.elim)

/-- What a step leaves. -/
def StepPost (M : Nat → Prop) (w : World) (b o : Nat) (how pc : Int) (r bk : List Int) (e : Ending) (w' : World) : Prop :=
  e = .returned (.tuple #[.int .i64 how, .nilIface]) ∧ FrB M w' b o pc r bk ∧ Upto (· = b) w w'

section
variable (M : Nat → Prop) (b o bc off ccap : Nat) (l : List InsD) (pc : Int) (r bk : List Int) (mv : Value) (w : World)
set_option maxRecDepth 100000 in
set_option maxHeartbeats 2000000 in
theorem step_out (hF : FrB M w b o pc r bk) (hlen : l.length ≤ 1000000) (hpc : pc < 0 ∨ (l.length : Int) ≤ pc) (A : Option Addr) :
    Calls Tryd.prog 10 #[.pointer (some ⟨b, o, none⟩), .slice A l.length ccap, mv] w (StepPost M w b o 3 pc r bk) := by
  obtain ⟨A2, cap, hFr, hB, hcap, hM⟩ := hF
  have h0 := hFr.pc
  have HF := Lib.hid hFr
  have HB := Lib.hid hB
  have HM := Lib.hid hM
  clear hFr hB hM
  unfold StepPost FrB
  rcases hpc with hpc | hpc
  · go_enter Tryd.func10, Tryd.ntmps10
    go_wp2_with fail
    go_ret2
    exact ⟨rfl, ⟨A2, cap, HF.out, HB.out, hcap, HM.out⟩, Upto.refl _ _⟩
  · have h1 : ¬ pc < 0 := by omega
    go_enter Tryd.func10, Tryd.ntmps10
    go_wp2_with fail
    go_ret2
    exact ⟨rfl, ⟨A2, cap, HF.out, HB.out, hcap, HM.out⟩, Upto.refl _ _⟩

set_option maxRecDepth 100000 in
set_option maxHeartbeats 2000000 in
theorem step_mayn (k : Nat) (x : InsD) (hF : FrB M w b o k r bk) (hi : InsAt w bc off l) (hlen : l.length ≤ 1000000) (hk : k < l.length) (hx : l[k] = x) (hv : vmayF x l.length = false) :
    Calls Tryd.prog 10 #[.pointer (some ⟨b, o, none⟩), .slice (some ⟨bc, off, none⟩) l.length ccap, mv] w (StepPost M w b o 3 k r bk) := by
  obtain ⟨A2, cap, hFr, hB, hcap, hM⟩ := hF
  have h0 := hFr.pc
  obtain ⟨c0, c1, c2, c3, c4, c5, c6⟩ := hi k hk
  rw [hx] at c0 c1 c2 c3 c4 c5 c6
  have h1 : (k : Int) < (l.length : Int) := by omega
  have h2 : (0 : Int) ≤ (k : Int) := by omega
  have HF := Lib.hid hFr
  have HB := Lib.hid hB
  have HM := Lib.hid hM
  have HV := Lib.hid hv
  clear hFr hB hM hv hx hi
  unfold StepPost FrB
  go_enter Tryd.func10, Tryd.ntmps10
  go_wp2_with (first | (go_at_call 26; refine (vmay_any x l.length (by omega) (by omega) _).mono ?_; rintro e w1 ⟨rfl, hb⟩; rw [HV.out]; have X1 := Lib.hid hb; clear hb))
  go_ret2
  exact ⟨rfl, ⟨A2, cap, HF.out.ext X1.out, HB.out.upto (S := fun _ => False) (Upto.of_ext X1.out) (fun _ _ _ h => h), hcap, HM.out⟩, Upto.of_ext X1.out⟩

set_option maxRecDepth 100000 in
set_option maxHeartbeats 4000000 in
theorem step_jump (k : Nat) (op x1 x2 x3 v m wh : Int) (hF : FrB M w b o k r bk) (hi : InsAt w bc off l) (hlen : l.length ≤ 1000000) (hk : k < l.length) (hx : l[k] = ⟨op, x1, x2, x3, v, m, wh⟩) (hv : vmayF ⟨op, x1, x2, x3, v, m, wh⟩ l.length = true)
    (hop : op = 12 ∨ op = 13 ∨ op = 14 ∨ op = 15 ∨ op = 16) (how pc' : Int) (r' bk' : List Int)
    (hj : ∀ W, Ext w W → Calls Tryd.prog 27 #[.pointer (some ⟨b, o, none⟩), insA op x1 x2 x3 v m wh] W fun e w' => e = .returned (.int .i64 how) ∧ FrB M w' b o pc' r' bk' ∧ Upto (· = b) W w') :
    Calls Tryd.prog 10 #[.pointer (some ⟨b, o, none⟩), .slice (some ⟨bc, off, none⟩) l.length ccap, mv] w (StepPost M w b o how pc' r' bk') := by
  obtain ⟨A2, cap, hFr, hB, hcap, hM⟩ := hF
  have h0 := hFr.pc
  obtain ⟨c0, c1, c2, c3, c4, c5, c6⟩ := hi k hk
  rw [hx] at c0 c1 c2 c3 c4 c5 c6
  have lb0 := World.block_lt_of_cell? _ _ h0
  have lb1 := World.block_lt_of_cell? _ _ c0
  have h1 : (k : Int) < (l.length : Int) := by omega
  have h2 : (0 : Int) ≤ (k : Int) := by omega
  have HV := Lib.hid hv
  have HJ := Lib.hid hj
  clear hFr hB hM hv hx hi hj hcap
  simp only at c0 c1 c2 c3 c4 c5 c6
  unfold StepPost
  rcases hop with rfl | rfl | rfl | rfl | rfl
  all_goals
    go_enter Tryd.func10, Tryd.ntmps10
    go_wp2_with (first
      | (go_at_call 26; refine (vmay_any ⟨_, x1, x2, x3, v, m, wh⟩ l.length (by omega) (by omega) _).mono ?_; rintro e w1 ⟨rfl, hb⟩; rw [HV.out]
         have d0 := (hb.cell (p := ⟨b, o, none⟩) lb0).trans h0
         have e0 := (hb.cell (p := ⟨bc, off + k * 7, none⟩) lb1).trans c0
         have e1 := (hb.cell (p := ⟨bc, off + k * 7 + 1, none⟩) lb1).trans c1
         have e2 := (hb.cell (p := ⟨bc, off + k * 7 + 2, none⟩) lb1).trans c2
         have e3 := (hb.cell (p := ⟨bc, off + k * 7 + 3, none⟩) lb1).trans c3
         have e4 := (hb.cell (p := ⟨bc, off + k * 7 + 4, none⟩) lb1).trans c4
         have e5 := (hb.cell (p := ⟨bc, off + k * 7 + 5, none⟩) lb1).trans c5
         have e6 := (hb.cell (p := ⟨bc, off + k * 7 + 6, none⟩) lb1).trans c6
         have X1 := Lib.hid hb; clear hb)
      | (go_at_call 27; refine (HJ.out _ (X1.out.trans ((ext1 _ _).mono X1.out.size))).mono ?_; rintro e w2 ⟨rfl, hf2, hu2⟩; have F2 := Lib.hid hf2; have U2 := Lib.hid hu2; clear hf2 hu2))
    go_ret2
    exact ⟨rfl, F2.out, (Upto.of_ext (X1.out.trans ((ext1 _ _).mono X1.out.size))).trans U2.out⟩
end
end Go.Proofs.YtoncebfhkoabaaaDoor
