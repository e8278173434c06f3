/- Walk of CodeEach: true for any code, wherever errors.errorType holds what start-up lays. -/
import Derived.Test.YtcbfaobepmhidaaDoorC7
namespace Go.Proofs.YtcbfaobepmhidaaDoor
open Go.RowKit Go.Extern.Stop Go.Stop Go.Extern

theorem firstBad_append (p : InsD → Bool) : ∀ (l m : List InsD) (k : Nat), firstBad p (l ++ m) k = match firstBad p l k with | some i => some i | none => firstBad p m (k + l.length)
  | [], m, k => rfl
  | x :: l, m, k => by
    simp only [List.cons_append, firstBad]
    cases h : p x
    · simp
    · simp only [if_true]
      rw [firstBad_append p l m (k + 1)]
      simp only [List.length_cons]
      rw [show k + 1 + l.length = k + (l.length + 1) by omega]
theorem firstBad_take {p : InsD → Bool} {l : List InsD} {k : Nat} (h : k < l.length) : firstBad p (l.take (k + 1)) 0 = match firstBad p (l.take k) 0 with | some i => some i | none => if p l[k] then none else some k := by
  rw [List.take_succ_eq_append_getElem h, firstBad_append]
  cases firstBad p (l.take k) 0 with
  | some i => rfl
  | none => simp only [firstBad, List.length_take]; rw [show 0 + min k l.length = k by omega]

def firstV : Option Nat → Value
  | none => .int .i64 (-1)
  | some i => .int .i64 i

set_option maxHeartbeats 4000000 in
theorem codeEach_short (A : Option Addr) (n cap : Nat) (lib : Bool) (hn : n = 0 ∨ 60 < n) (hm : (n : Int) ≤ 9223372036854775807) (w : World) (hg : Gl w) :
    Calls Tryd.prog 5 #[.slice A n cap, .bool lib] w fun e w' => e = .returned (.bool true) ∧ Ext w w' := by
  have G := Lib.hid hg
  clear hg
  rcases hn with rfl | hn
  · go_enter Tryd.func5, Tryd.ntmps5
    go_wp2_with (first | (go_at_call 16; refine (awake_any _ G.out).mono ?_; rintro e w3 ⟨rfl, hx3⟩; have X3 := Lib.hid hx3; clear hx3))
    go_ret
    exact ⟨rfl, X3.out⟩
  · have h1 : (60 : Int) < (n : Int) := by omega
    have h2 : ((n : Int) == 0) = false := beq_eq_false_iff_ne.2 (by omega)
    go_enter Tryd.func5, Tryd.ntmps5
    go_wp2_with (first | (go_at_call 16; refine (awake_any _ G.out).mono ?_; rintro e w3 ⟨rfl, hx3⟩; have X3 := Lib.hid hx3; clear hx3))
    go_ret
    exact ⟨rfl, X3.out⟩

set_option maxHeartbeats 4000000 in
theorem codeEach_long (b off cap : Nat) (l : List InsD) (lib : Bool) (hn1 : 1 ≤ l.length) (hn2 : l.length ≤ 60) (w : World) (hi : InsAt w b off l) (hg : Gl w) :
    Calls Tryd.prog 5 #[.slice (some ⟨b, off, none⟩) l.length cap, .bool lib] w fun e w' => e = .returned (.bool true) ∧ Ext w w' := by
  have G := Lib.hid hg
  have I := Lib.hid hi
  clear hg hi
  have h1 : ¬ (60 : Int) < (l.length : Int) := by omega
  have h2 : ((l.length : Int) == 0) = false := beq_eq_false_iff_ne.2 (by omega)
  obtain ⟨p, hp⟩ : ∃ p : InsD → Bool, p = fun x => mayF x l.length lib := ⟨_, rfl⟩
  have P := Lib.hid hp
  clear hp
  go_enter Tryd.func5, Tryd.ntmps5
  go_wp2_with fail
  go_loopw [5, 6, 7] (fun a f i wr => ∃ (k : Nat) (r : Option Nat), k ≤ l.length ∧ i = .int .i64 k ∧ Ext w wr ∧ firstBad p (l.take k) 0 = r ∧ a = .bool r.isNone ∧ f = firstV r ∧ (∀ j, r = some j → j < l.length)) (fun _ _ i _ => l.length - (intOf i).toNat)
  case atStart => exact ⟨0, none, Nat.zero_le _, rfl, Below.refl _ _, rfl, rfl, rfl, fun j h => by cases h⟩
  case round =>
    obtain ⟨k, r, hk, rfl, hx, hr, rfl, rfl, hj⟩ := hrel
    have X := Lib.hid hx
    have R := Lib.hid hr
    have J := Lib.hid hj
    have hsz := hx.size
    clear hr hj
    by_cases hlt : k < l.length
    · obtain ⟨c0, c1, c2, c3, c4, c5, c6⟩ := (I.out.ext hx) k hlt
      have T := Lib.hid (firstBad_take (p := p) hlt)
      have hz0 : (0 : Int) ≤ (k : Int) := by omega
      have hkl : (k : Int) < (l.length : Int) := by omega
      clear hx
      generalize hy : l[k] = y at c0 c1 c2 c3 c4 c5 c6 T
      clear hy
      have PY := Lib.hid (show p y = mayF y l.length lib by rw [P.out])
      cases r with
      | none =>
        cases hm : mayF y l.length lib
        · unfold firstV
          go_wp2_with (first | (go_at_call 19; refine (alone_any y l.length lib (by omega) (by omega) _).mono ?_; rintro e w1 ⟨rfl, hx1⟩; have X1 := Lib.hid (X.out.trans (hx1.mono hsz)); clear hx1))
          go_roundw
          case rel => exact ⟨k + 1, some k, by omega, by go_num, X1.out, by rw [T.out, R.out]; simp only []; rw [PY.out, hm]; rfl, rfl, rfl, fun j h => by cases h; exact hlt⟩
          case measure => simp [intOf]; omega
        · unfold firstV
          go_wp2_with (first | (go_at_call 19; refine (alone_any y l.length lib (by omega) (by omega) _).mono ?_; rintro e w1 ⟨rfl, hx1⟩; have X1 := Lib.hid (X.out.trans (hx1.mono hsz)); clear hx1))
          go_roundw
          case rel => exact ⟨k + 1, none, by omega, by go_num, X1.out, by rw [T.out, R.out]; simp only []; rw [PY.out, hm]; rfl, rfl, rfl, fun j h => by cases h⟩
          case measure => simp [intOf]; omega
      | some j =>
        have hjn : (0 : Int) ≤ (j : Int) := by omega
        have hjn2 : ¬ (j : Int) < 0 := by omega
        cases hm : mayF y l.length lib
        · unfold firstV
          go_wp2_with (first | (go_at_call 19; refine (alone_any y l.length lib (by omega) (by omega) _).mono ?_; rintro e w1 ⟨rfl, hx1⟩; have X1 := Lib.hid (X.out.trans (hx1.mono hsz)); clear hx1))
          go_roundw
          case rel => exact ⟨k + 1, some j, by omega, by go_num, X1.out, by rw [T.out, R.out], rfl, rfl, J.out⟩
          case measure => simp [intOf]; omega
        · unfold firstV
          go_wp2_with (first | (go_at_call 19; refine (alone_any y l.length lib (by omega) (by omega) _).mono ?_; rintro e w1 ⟨rfl, hx1⟩; have X1 := Lib.hid (X.out.trans (hx1.mono hsz)); clear hx1))
          go_roundw
          case rel => exact ⟨k + 1, some j, by omega, by go_num, X1.out, by rw [T.out, R.out], rfl, rfl, J.out⟩
          case measure => simp [intOf]; omega
    · have hkn : k = l.length := by omega
      subst hkn
      have CF := Lib.hid (show checkF l (fun x => mayF x l.length lib) = r.map fun (i : Nat) => ([(codeS, (i : Int))], 5) by
        unfold checkF
        rw [if_neg (by omega), ← P.out, ← R.out, List.take_length])
      clear hx
      go_wp2_with fail
      refine (copyCode_any (some ⟨b, off, none⟩) cap l (by omega) wr (fun _ => ⟨b, off, rfl, I.out.ext X.out⟩)).mono ?_
      rintro e w1 ⟨A', c, rfl, hi1, hc, hx1⟩
      have I1 := Lib.hid hi1
      have X1 := Lib.hid (X.out.trans (hx1.mono hsz))
      clear hi1 hx1
      go_wp2_with fail
      refine (check_sl A' c l lib (by omega) w1 I1.out).mono ?_
      rintro e w2 ⟨v, rfl, hv, hx2⟩
      have X2 := Lib.hid (X1.out.trans (hx2.mono X1.out.size))
      rw [CF.out] at hv
      clear hx2
      cases r with
      | none =>
        obtain rfl : v = .nilIface := hv
        unfold firstV
        go_wp2_with (first | (go_at_call 16; refine (awake_any _ (Gl.ext G.out X2.out)).mono ?_; rintro e w3 ⟨rfl, hx3⟩; have X3 := Lib.hid hx3; clear hx3))
        go_ret
        exact ⟨rfl, X2.out.trans (X3.out.mono X2.out.size)⟩
      | some j =>
        have V := Lib.hid hv
        unfold firstV
        go_wp2_with fail
        refine (no_any _ _ _ w2).mono ?_
        rintro e w3 ⟨fb, rfl, hf, hx3⟩
        have X3 := Lib.hid (X2.out.trans (hx3.mono X2.out.size))
        have F := Lib.hid (show FailPost w3 (.pointer (some ⟨fb, 0, none⟩)) (some ([(codeS, (j : Int))], 5)) from ⟨fb, rfl, hf⟩)
        have V3 := Lib.hid (ErrPost.ext V.out hx3)
        clear hx3 hf
        go_wp2_with fail
        refine (same_match w3 v _ _ V3.out F.out (by intro ls k h; cases h; exact ⟨by simp, by simp, by omega, by omega⟩) (Gl.ext G.out X3.out)).mono ?_
        rintro e w4 ⟨rfl, hx4⟩
        have X4 := Lib.hid (X3.out.trans (hx4.mono X3.out.size))
        clear hx4
        go_wp2_with (first | (go_at_call 16; refine (awake_any _ (Gl.ext G.out X4.out)).mono ?_; rintro e w5 ⟨rfl, hx5⟩; have X5 := Lib.hid hx5; clear hx5))
        go_ret
        exact ⟨rfl, X4.out.trans (X5.out.mono X4.out.size)⟩
theorem codeEach_walk (A : Option Addr) (cap : Nat) (l : List InsD) (lib : Bool) (hb : l.length * 56 ≤ 140737488355328) (w : World) (hi : InsSl w A l) (hg : Gl w) :
    Calls Tryd.prog 5 #[.slice A l.length cap, .bool lib] w fun e w' => e = .returned (.bool true) ∧ Ext w w' := by
  by_cases h : l.length = 0 ∨ 60 < l.length
  · exact codeEach_short A _ cap lib h (by omega) w hg
  · obtain ⟨b, off, rfl, hi'⟩ := hi (by intro e; subst e; simp at h)
    exact codeEach_long b off cap l lib (by omega) (by omega) w hi' hg
end Go.Proofs.YtcbfaobepmhidaaDoor
