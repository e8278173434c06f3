/- Walk of code.Client. -/
import Derived.Test.YtcbfaobepmhidaaDoorD1
namespace Go.Proofs.YtcbfaobepmhidaaDoor
open Go.RowKit Go.Extern.Stop Go.Stop Go.Extern

def badArgs (l : List InsD) (wd nr : Int) : Prop := wd < 0 ∨ nr < 0 ∨ 256 < wd ∨ 256 - wd < nr ∨ l = []
instance (l : List InsD) (wd nr : Int) : Decidable (badArgs l wd nr) := by unfold badArgs; infer_instance
def clientF (l : List InsD) (en wd nr : Int) : Ans :=
  if badArgs l wd nr then some ([(codeS, 0)], 1)
  else match Ans.wrap (checkF l (fun x => mayF x l.length false)) with
    | some r => some r
    | none => placeF en l.length

set_option maxHeartbeats 2000000 in
theorem client_bad (A : Option Addr) (cap : Nat) (l : List InsD) (en wd nr : Int) (hm : (l.length : Int) ≤ 9223372036854775807) (w : World) (hb : badArgs l wd nr) :
    Calls Tryd.prog 23 #[.agg #[.slice A l.length cap, .int .i64 en, .int .i64 wd, .int .i64 nr]] w (CheckPost w (some ([(codeS, 0)], 1))) := by
  by_cases h1 : wd < 0
  · clear hb
    go_enter Tryd.func23, Tryd.ntmps23
    go_wp2_with (first | (go_at_call 30; refine (fail_any _ _ _ _).mono ?_; rintro e w' ⟨rfl, rfl⟩))
    go_ret
    exact ⟨_, rfl, by simpa using err_leaf 0 1 (w.alloc _), (ext1 _ _).trans ((ext1 _ _).mono (by simp))⟩
  · by_cases h2 : nr < 0
    · clear hb
      go_enter Tryd.func23, Tryd.ntmps23
      go_wp2_with (first | (go_at_call 30; refine (fail_any _ _ _ _).mono ?_; rintro e w' ⟨rfl, rfl⟩))
      go_ret
      exact ⟨_, rfl, by simpa using err_leaf 0 1 (w.alloc _), (ext1 _ _).trans ((ext1 _ _).mono (by simp))⟩
    · by_cases h3 : 256 < wd
      · clear hb
        go_enter Tryd.func23, Tryd.ntmps23
        go_wp2_with (first | (go_at_call 30; refine (fail_any _ _ _ _).mono ?_; rintro e w' ⟨rfl, rfl⟩))
        go_ret
        exact ⟨_, rfl, by simpa using err_leaf 0 1 (w.alloc _), (ext1 _ _).trans ((ext1 _ _).mono (by simp))⟩
      · have h5 : 0 ≤ wd := by omega
        have h6 : wd ≤ 256 := by omega
        by_cases h4 : 256 - wd < nr
        · clear hb
          go_enter Tryd.func23, Tryd.ntmps23
          go_wp2_with (first | (go_at_call 30; refine (fail_any _ _ _ _).mono ?_; rintro e w' ⟨rfl, rfl⟩))
          go_ret
          exact ⟨_, rfl, by simpa using err_leaf 0 1 (w.alloc _), (ext1 _ _).trans ((ext1 _ _).mono (by simp))⟩
        · have hl : l = [] := by
            rcases hb with h | h | h | h | h
            · exact absurd h h1
            · exact absurd h h2
            · exact absurd h h3
            · exact absurd h h4
            · exact h
          subst hl
          clear hb
          go_enter Tryd.func23, Tryd.ntmps23
          go_wp2_with (first | (go_at_call 30; refine (fail_any _ _ _ _).mono ?_; rintro e w' ⟨rfl, rfl⟩))
          go_ret
          exact ⟨_, rfl, by simpa using err_leaf 0 1 (w.alloc _), (ext1 _ _).trans ((ext1 _ _).mono (by simp))⟩

set_option maxHeartbeats 2000000 in
theorem client_good (A : Option Addr) (cap : Nat) (l : List InsD) (en wd nr : Int) (hm : (l.length : Int) ≤ 9223372036854775807) (w : World) (hi : InsSl w A l) (hg : Gl w) (hb : ¬ badArgs l wd nr) :
    Calls Tryd.prog 23 #[.agg #[.slice A l.length cap, .int .i64 en, .int .i64 wd, .int .i64 nr]] w (CheckPost w (match Ans.wrap (checkF l (fun x => mayF x l.length false)) with
    | some r => some r
    | none => placeF en l.length)) := by
  have h1 : ¬ wd < 0 := fun h => hb (.inl h)
  have h2 : ¬ nr < 0 := fun h => hb (.inr (.inl h))
  have h3 : ¬ 256 < wd := fun h => hb (.inr (.inr (.inl h)))
  have h4 : ¬ 256 - wd < nr := fun h => hb (.inr (.inr (.inr (.inl h))))
  have h5 : 0 ≤ wd := by omega
  have h6 : wd ≤ 256 := by omega
  have hl0 : ¬ (l.length : Int) = 0 := fun h => hb (.inr (.inr (.inr (.inr (List.eq_nil_of_length_eq_zero (by omega))))))
  have hl : ((l.length : Int) == 0) = false := beq_eq_false_iff_ne.2 hl0
  have HI := Lib.hid hi
  have HG := Lib.hid hg
  clear hi hg hb hl0
  generalize hr : Ans.wrap (checkF l (fun x => mayF x l.length false)) = r
  have HR := Lib.hid hr
  clear hr
  go_enter Tryd.func23, Tryd.ntmps23
  go_wp2_with fail
  refine (checked_any A cap l false hm _ (HI.out.ext (ext1 _ _)) (Gl.ext HG.out (ext1 _ _))).mono ?_
  rintro e w1 ⟨v, rfl, hv, hx⟩
  rw [HR.out] at hv
  have X := Lib.hid (show Ext w w1 from (ext1 _ _).trans (hx.mono (by simp)))
  have c0 : w1.cell? ⟨w.heap.size, 0, none⟩ = some (.slice A l.length cap) := by rw [hx.cell (by simp)]; simp
  have c1 : w1.cell? ⟨w.heap.size, 1, none⟩ = some (.int .i64 en) := by rw [hx.cell (by simp)]; simp
  clear hx
  rcases r with _ | ⟨ls, k⟩
  · obtain rfl : v = .nilIface := hv
    go_wp2_with fail
    refine (place_any _ _ _).mono ?_
    rintro e w2 ⟨v, rfl, hv, hx⟩
    have V := Lib.hid hv
    have X2 := Lib.hid (X.out.trans (hx.mono X.out.size))
    clear hv hx
    go_wp2_with fail
    go_ret
    exact ⟨_, rfl, V.out, X2.out⟩
  · obtain ⟨c, rfl, hc⟩ := hv
    have HC := Lib.hid hc
    clear hc
    go_wp2_with fail
    go_ret
    exact ⟨_, rfl, ⟨c, rfl, HC.out⟩, X.out⟩

theorem client_any (A : Option Addr) (cap : Nat) (l : List InsD) (en wd nr : Int) (hm : (l.length : Int) ≤ 9223372036854775807) (w : World) (hi : InsSl w A l) (hg : Gl w) :
    Calls Tryd.prog 23 #[.agg #[.slice A l.length cap, .int .i64 en, .int .i64 wd, .int .i64 nr]] w (CheckPost w (clientF l en wd nr)) := by
  unfold clientF
  by_cases hb : badArgs l wd nr
  · rw [if_pos hb]; exact client_bad A cap l en wd nr hm w hb
  · rw [if_neg hb]; exact client_good A cap l en wd nr hm w hi hg hb
end Go.Proofs.YtcbfaobepmhidaaDoor
