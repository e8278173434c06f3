/- distaffkeep.Same where the program's answer and the document's are one; checks as answers. -/
import Derived.Test.YtcbfaobepmhidaaDoorC4
namespace Go.Proofs.YtcbfaobepmhidaaDoor
open Go.RowKit Go.Extern.Stop Go.Stop Go.Extern

abbrev Ans : Type := Option (List (ByteArray × Int) × Int)
def Ans.good (r : Ans) : Prop := ∀ ls k, r = some (ls, k) → ls ≠ [] ∧ ls.length ≤ 1000 ∧ 1 ≤ k ∧ k ≤ 10
theorem ErrPost.ext {w w' : World} {v : Value} {r : Ans} (h : ErrPost w v r) (hx : Ext w w') : ErrPost w' v r := by
  cases r with
  | none => exact h
  | some p =>
    obtain ⟨ls, k⟩ := p
    obtain ⟨c, e, hc⟩ := h
    exact ⟨c, e, Below.chain hx hc⟩
theorem FailPost.ext {w w' : World} {v : Value} {r : Ans} (h : FailPost w v r) (hx : Ext w w') : FailPost w' v r := by
  cases r with
  | none => exact h
  | some p =>
    obtain ⟨ls, k⟩ := p
    obtain ⟨c, e, hc⟩ := h
    exact ⟨c, e, FailAt.ext hc hx⟩
theorem ErrPost.nil_or {w : World} {v : Value} {r : Ans} (h : ErrPost w v r) : v = .nilIface ∨ ∃ x, v = .iface 67 x := by
  cases r with
  | none => exact .inl h
  | some p =>
    obtain ⟨c, e, hc⟩ := h
    exact .inr ⟨_, e⟩
theorem ErrPost.nil_iff {w : World} {v : Value} {r : Ans} (h : ErrPost w v r) : v = .nilIface ↔ r = none := by
  cases r with
  | none => exact ⟨fun _ => rfl, fun _ => h⟩
  | some p =>
    obtain ⟨c, e, hc⟩ := h
    subst e
    exact ⟨(fun h => by cases h), (fun h => by cases h)⟩

theorem same_match (w : World) (v f : Value) (r : Ans) (hv : ErrPost w v r) (hf : FailPost w f r) (hr : Ans.good r) (hg : Gl w) :
    Calls Tryd.prog 12 #[v, f] w fun e w' => e = .returned (.bool true) ∧ Ext w w' := by
  cases r with
  | none =>
    obtain rfl : v = .nilIface := hv
    obtain rfl : f = .pointer none := hf
    exact (same_nil_nil w).mono fun e w' ⟨he, hw⟩ => ⟨he, hw ▸ Below.refl _ _⟩
  | some p =>
    obtain ⟨ls, k⟩ := p
    obtain ⟨c, rfl, hc⟩ := hv
    obtain ⟨d, rfl, hd⟩ := hf
    obtain ⟨h1, h2, h3, h4⟩ := hr ls k rfl
    cases ls with
    | nil => exact absurd rfl h1
    | cons p ls => exact same_yes w d 67 _ p ls k h3 h4 hc hd hg h2

theorem checkF_good (l : List InsD) (p : InsD → Bool) : Ans.good (checkF l p) := by
  intro ls k h
  unfold checkF at h
  split at h
  · cases h; exact ⟨by simp, by simp, by omega, by omega⟩
  · cases hb : firstBad p l 0 with
    | none => rw [hb] at h; cases h
    | some i => rw [hb] at h; cases h; exact ⟨by simp, by simp, by omega, by omega⟩

set_option maxHeartbeats 2000000 in
theorem codeChecks_walk (A : Option Addr) (cap : Nat) (l : List InsD) (lib : Bool) (hb : l.length * 56 ≤ 140737488355328) (w : World) (hi : InsSl w A l) (hg : Gl w) :
    Calls Tryd.prog 3 #[.slice A l.length cap, .bool lib] w fun e w' => e = .returned (.bool true) ∧ Ext w w' := by
  have G := Lib.hid hg
  have I := Lib.hid hi
  clear hg hi
  generalize hr : checkF l (fun x => mayF x l.length lib) = r
  have R := Lib.hid hr
  have RG := Lib.hid (show Ans.good r by rw [← hr]; exact checkF_good _ _)
  clear hr
  go_enter Tryd.func3, Tryd.ntmps3
  go_wp2_with fail
  refine (copyCode_any A cap l hb w I.out).mono ?_
  rintro e w1 ⟨A', c, rfl, hi1, hc, hx1⟩
  have I1 := Lib.hid hi1
  have X1 := Lib.hid hx1
  clear hi1 hx1
  go_wp2_with fail
  refine (check_sl A' c l lib (by omega) w1 I1.out).mono ?_
  rintro e w2 ⟨v, rfl, hv, hx2⟩
  have X2 := Lib.hid (X1.out.trans (hx2.mono X1.out.size))
  have V := Lib.hid (show ErrPost w2 v r by rw [← R.out]; exact hv)
  have I2 := Lib.hid (I1.out.ext hx2)
  clear hx2 hv
  go_wp2_with fail
  refine (rcheck_sl A cap l lib (by omega) w2 (I.out.ext X2.out)).mono ?_
  rintro e w3 ⟨f, rfl, hf, hx3⟩
  have X3 := Lib.hid (X2.out.trans (hx3.mono X2.out.size))
  have F := Lib.hid (show FailPost w3 f r by rw [← R.out]; exact hf)
  have V3 := Lib.hid (V.out.ext hx3)
  have I3 := Lib.hid (I2.out.ext hx3)
  clear hx3 hf
  go_wp2_with fail
  refine (same_match w3 v f r V3.out F.out RG.out (Gl.ext G.out X3.out)).mono ?_
  rintro e w4 ⟨rfl, hx4⟩
  have X4 := Lib.hid (X3.out.trans (hx4.mono X3.out.size))
  have I4 := Lib.hid (I3.out.ext hx4)
  clear hx4
  go_wp2_with fail
  refine (code_same A A' cap c l (by omega) w4 (I.out.ext X4.out) I4.out).mono ?_
  rintro e w5 ⟨rfl, n5, rfl⟩
  have X5 := Lib.hid (show Ext w (w4.drewN n5) from X4.out.trans ⟨rfl, rfl, rfl, Nat.le_refl _, fun _ _ => rfl⟩)
  go_wp2_with fail
  refine (awake_any _ (Gl.ext G.out X5.out)).mono ?_
  rintro e w6 ⟨rfl, hx6⟩
  have X6 := Lib.hid (X5.out.trans (hx6.mono X5.out.size))
  clear hx6
  go_wp2_with fail
  go_ret
  exact ⟨rfl, X6.out⟩
end Go.Proofs.YtcbfaobepmhidaaDoor
