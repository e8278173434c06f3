/- The document's words for the vm: walks of one, reckon, Access, and of Do at a cell that is not there. -/
import Derived.Test.YtoncebfhkoabaaaDoorS1
import Derived.Test.YtoncebfhkoabaaaDoorV3
import Derived.Test.YtoncebfhkoabaaaDoorD4
namespace Go.Proofs.YtoncebfhkoabaaaDoor
open Go.RowKit Go.Extern.Stop Go.Stop Go.Extern

theorem one_any (p : Bool) (w : World) : Calls Tryd.prog 55 #[.bool p] w fun e w' => e = .returned (.int .u64 (flagF p)) ∧ w = w' := by
  cases p
  · go_enter Tryd.func55, Tryd.ntmps55
    go_wp2
    go_ret
    exact ⟨rfl, rfl⟩
  · go_enter Tryd.func55, Tryd.ntmps55
    go_wp2
    go_ret
    exact ⟨rfl, rfl⟩
theorem accessF_any (op : Int) (h : op = 17 ∨ op = 18 ∨ op = 19 ∨ op = 20 ∨ op = 21) (w : World) : Calls Tryd.prog 36 #[.int .i64 op] w fun e w' => e = .returned (.int .i64 (kindOf op)) ∧ w = w' := by
  rcases h with rfl | rfl | rfl | rfl | rfl
  all_goals
    go_enter Tryd.func36, Tryd.ntmps36
    go_wp2
    go_ret
    exact ⟨rfl, rfl⟩
set_option maxHeartbeats 4000000 in
theorem rreckon_any (op b c v : Int) (h : 3 ≤ op ∧ op ≤ 11) (w : World) :
    Calls Tryd.prog 34 #[.int .i64 op, .int .u64 b, .int .u64 c] w fun e w' => e = .returned (.int .u64 (reckonF op v b c)) ∧ w = w' := by
  have hs := shiftBy_nonneg c
  have h2 : op = 3 ∨ op = 4 ∨ op = 5 ∨ op = 6 ∨ op = 7 ∨ op = 8 ∨ op = 9 ∨ op = 10 ∨ op = 11 := by omega
  clear h
  rcases h2 with rfl | rfl | rfl | rfl | rfl | rfl | rfl | rfl | rfl
  all_goals
    go_enter Tryd.func34, Tryd.ntmps34
    go_wp2_with (first
      | (go_at_call 55; refine (one_any _ _).mono ?_; rintro e w' ⟨rfl, rfl⟩))
    go_ret
    refine ⟨?_, rfl⟩
    first | rfl | (simp [reckonF]; done)

def RMiss (a : Int) (w : World) (e : Ending) (w' : World) : Prop := ∃ f, e = .returned (.tuple #[.int .u64 0, .pointer (some ⟨f, 0, none⟩)]) ∧ FailAt w' f [(memS, missN a)] 2 ∧ Ext w w'
theorem rdo_miss (m c d : Nat) (cs ws : List Int) (ct : Int) (w : World) (kind a old v : Int) (hM : RMemAt w m c d cs ws ct) (h0 : 0 ≤ a) (hw : widthF ws a = 0) :
    Calls Tryd.prog 24 #[.pointer (some ⟨m, 0, none⟩), .int .i64 kind, .int .u64 a, .int .u64 old, .int .u64 v] w (RMiss a w) := by
  have C := Lib.hid (rwidth_any m c d cs ws ct w a h0 hM)
  have W := Lib.hid hw
  clear hM hw
  unfold RMiss
  by_cases hb : a ≤ 4611686018427387904
  · have HM := Lib.hid (show missN a = a by unfold missN; rw [if_pos hb])
    rw [HM.out]
    go_enter Tryd.func24, Tryd.ntmps24
    go_wp2_with (first | (go_at_call 44; refine C.out.mono ?_; rintro e w' ⟨rfl, rfl⟩; rw [W.out]) | (go_at_call 16; refine (no_any _ _ _ _).mono ?_; rintro e w' ⟨b, rfl, hf, hx⟩; have HF := Lib.hid hf; have HX := Lib.hid hx; clear hf hx))
    go_ret2
    exact ⟨b, rfl, HF.out, HX.out⟩
  · have HM := Lib.hid (show missN a = 0 by unfold missN; rw [if_neg hb])
    rw [HM.out]
    have hb2 : 4611686018427387904 < a := by omega
    clear hb
    go_enter Tryd.func24, Tryd.ntmps24
    go_wp2_with (first | (go_at_call 44; refine C.out.mono ?_; rintro e w' ⟨rfl, rfl⟩; rw [W.out]) | (go_at_call 16; refine (no_any _ _ _ _).mono ?_; rintro e w' ⟨b, rfl, hf, hx⟩; have HF := Lib.hid hf; have HX := Lib.hid hx; clear hf hx))
    go_ret2
    exact ⟨b, rfl, HF.out, HX.out⟩
end Go.Proofs.YtoncebfhkoabaaaDoor
