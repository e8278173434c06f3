/- Walk of the document's Client. -/
import Derived.Test.YtcbfaobepmhidaaDoorD5
namespace Go.Proofs.YtcbfaobepmhidaaDoor
open Go.RowKit Go.Extern.Stop Go.Stop Go.Extern

set_option maxHeartbeats 4000000 in
set_option maxRecDepth 100000 in
theorem rclient_bad (A : Option Addr) (cap : Nat) (l : List InsD) (en wd nr : Int) (hm : (l.length : Int) ≤ 9223372036854775807) (w : World) (hb : badArgs l wd nr) :
    Calls Tryd.prog 24 #[.agg #[.slice A l.length cap, .int .i64 en, .int .i64 wd, .int .i64 nr]] w (RefPost w (some ([(codeS, 0)], 1))) := by
  by_cases h1 : wd < 0
  · clear hb
    go_enter Tryd.func24, Tryd.ntmps24
    go_wp2_with (first | (go_at_call 20; refine (no_any _ _ _ _).mono ?_; rintro e w' ⟨b, rfl, hf, hx⟩; have HF := Lib.hid hf; have HX := Lib.hid hx; clear hf hx))
    go_ret
    exact ⟨_, rfl, ⟨b, rfl, HF.out⟩, (ext1 _ _).trans (HX.out.mono (by simp))⟩
  · by_cases h2 : nr < 0
    · clear hb
      go_enter Tryd.func24, Tryd.ntmps24
      go_wp2_with (first | (go_at_call 20; refine (no_any _ _ _ _).mono ?_; rintro e w' ⟨b, rfl, hf, hx⟩; have HF := Lib.hid hf; have HX := Lib.hid hx; clear hf hx))
      go_ret
      exact ⟨_, rfl, ⟨b, rfl, HF.out⟩, (ext1 _ _).trans (HX.out.mono (by simp))⟩
    · by_cases h3 : 256 < wd
      · clear hb
        go_enter Tryd.func24, Tryd.ntmps24
        go_wp2_with (first | (go_at_call 20; refine (no_any _ _ _ _).mono ?_; rintro e w' ⟨b, rfl, hf, hx⟩; have HF := Lib.hid hf; have HX := Lib.hid hx; clear hf hx))
        go_ret
        exact ⟨_, rfl, ⟨b, rfl, HF.out⟩, (ext1 _ _).trans (HX.out.mono (by simp))⟩
      · have h5 : 0 ≤ wd := by omega
        have h6 : wd ≤ 256 := by omega
        by_cases h4 : 256 - wd < nr
        · clear hb
          go_enter Tryd.func24, Tryd.ntmps24
          go_wp2_with (first | (go_at_call 20; refine (no_any _ _ _ _).mono ?_; rintro e w' ⟨b, rfl, hf, hx⟩; have HF := Lib.hid hf; have HX := Lib.hid hx; clear hf hx))
          go_ret
          exact ⟨_, rfl, ⟨b, rfl, HF.out⟩, (ext1 _ _).trans (HX.out.mono (by simp))⟩
        · have hl : l = [] := by
            rcases hb with h | h | h | h | h
            · exact absurd h h1
            · exact absurd h h2
            · exact absurd h h3
            · exact absurd h h4
            · exact h
          subst hl
          clear hb
          go_enter Tryd.func24, Tryd.ntmps24
          go_wp2_with (first | (go_at_call 20; refine (no_any _ _ _ _).mono ?_; rintro e w' ⟨b, rfl, hf, hx⟩; have HF := Lib.hid hf; have HX := Lib.hid hx; clear hf hx))
          go_ret
          exact ⟨_, rfl, ⟨b, rfl, HF.out⟩, (ext1 _ _).trans (HX.out.mono (by simp))⟩

set_option maxHeartbeats 4000000 in
set_option maxRecDepth 100000 in
theorem rclient_good (A : Option Addr) (cap : Nat) (l : List InsD) (en wd nr : Int) (hm : (l.length : Int) ≤ 9223372036854775807) (w : World) (hi : InsSl w A l) (hb : ¬ badArgs l wd nr) :
    Calls Tryd.prog 24 #[.agg #[.slice A l.length cap, .int .i64 en, .int .i64 wd, .int .i64 nr]] w (RefPost w (match Ans.wrap (checkF l (fun x => mayF x l.length false)) with
    | some r => some r
    | none => placeF en l.length)) := by
  have h1 : ¬ wd < 0 := fun h => hb (.inl h)
  have h2 : ¬ nr < 0 := fun h => hb (.inr (.inl h))
  have h3 : ¬ 256 < wd := fun h => hb (.inr (.inr (.inl h)))
  have h4 : ¬ 256 - wd < nr := fun h => hb (.inr (.inr (.inr (.inl h))))
  have h5 : 0 ≤ wd := by omega
  have h6 : wd ≤ 256 := by omega
  have hl0 : ¬ (l.length : Int) = 0 := fun h => hb (.inr (.inr (.inr (.inr (List.eq_nil_of_length_eq_zero (by omega))))))
  have hl : ((l.length : Int) == 0) = false := beq_eq_false_iff_ne.2 hl0
  have HI := Lib.hid hi
  clear hi hb hl0
  generalize hr : Ans.wrap (checkF l (fun x => mayF x l.length false)) = r
  have HR := Lib.hid hr
  clear hr
  go_enter Tryd.func24, Tryd.ntmps24
  go_wp2_with fail
  refine (again_any A cap l false hm _ (HI.out.ext (ext1 _ _))).mono ?_
  rintro e w1 ⟨v, rfl, hv, hx⟩
  rw [HR.out] at hv
  have X := Lib.hid (show Ext w w1 from (ext1 _ _).trans (hx.mono (by simp)))
  have c0 : w1.cell? ⟨w.heap.size, 0, none⟩ = some (.slice A l.length cap) := by rw [hx.cell (by simp)]; simp
  have c1 : w1.cell? ⟨w.heap.size, 1, none⟩ = some (.int .i64 en) := by rw [hx.cell (by simp)]; simp
  clear hx
  rcases r with _ | ⟨ls, k⟩
  · obtain rfl : v = .pointer none := hv
    by_cases h7 : en < 0
    · have HP := Lib.hid (show placeF en l.length = some ([(codeS, 0)], 5) by unfold placeF; rw [if_pos (.inl h7), show max en 0 = 0 by omega])
      go_wp2_with (first | (go_at_call 20; refine (no_any _ _ _ _).mono ?_; rintro e w' ⟨b, rfl, hf, hx⟩; have HF := Lib.hid hf; have HX := Lib.hid hx; clear hf hx))
      go_ret
      exact ⟨_, rfl, (show FailPost _ _ (placeF en l.length) by rw [HP.out]; exact ⟨b, rfl, HF.out⟩), X.out.trans (HX.out.mono X.out.size)⟩
    · by_cases h8 : (l.length : Int) ≤ en
      · have HP := Lib.hid (show placeF en l.length = some ([(codeS, en)], 5) by unfold placeF; rw [if_pos (.inr h8), show max en 0 = en by omega])
        have h9 : 0 ≤ en := by omega
        have hmx : max en 0 = en := by omega
        go_wp2_with (first | (go_at_call 20; refine (no_any _ _ _ _).mono ?_; rintro e w' ⟨b, rfl, hf, hx⟩; have HF := Lib.hid hf; have HX := Lib.hid hx; clear hf hx))
        go_ret
        exact ⟨_, rfl, (show FailPost _ _ (placeF en l.length) by rw [HP.out]; exact ⟨b, rfl, HF.out⟩), X.out.trans (HX.out.mono X.out.size)⟩
      · have HP := Lib.hid (show placeF en l.length = none by unfold placeF; rw [if_neg (by omega)])
        go_wp2_with fail
        go_ret
        exact ⟨_, rfl, (show FailPost _ _ (placeF en l.length) by rw [HP.out]; rfl), X.out⟩
  · obtain ⟨c, rfl, hc⟩ := hv
    have HC := Lib.hid hc
    clear hc
    go_wp2_with fail
    go_ret
    exact ⟨_, rfl, ⟨c, rfl, HC.out⟩, X.out⟩

theorem rclient_any (A : Option Addr) (cap : Nat) (l : List InsD) (en wd nr : Int) (hm : (l.length : Int) ≤ 9223372036854775807) (w : World) (hi : InsSl w A l) :
    Calls Tryd.prog 24 #[.agg #[.slice A l.length cap, .int .i64 en, .int .i64 wd, .int .i64 nr]] w (RefPost w (clientF l en wd nr)) := by
  unfold clientF
  by_cases hb : badArgs l wd nr
  · rw [if_pos hb]; exact rclient_bad A cap l en wd nr hm w hb
  · rw [if_neg hb]; exact rclient_good A cap l en wd nr hm w hi hb
end Go.Proofs.YtcbfaobepmhidaaDoor
