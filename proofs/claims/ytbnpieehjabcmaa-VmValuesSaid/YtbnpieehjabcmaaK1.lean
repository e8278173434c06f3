/- code.Check at a code of at most 2048 instructions: nil, or an error. -/
import Derived.Test.YtbnpieehjabcmaaA5
namespace Go.Proofs.Ytbnpieehjabcmaa
open Go.RowKit

/-- "code". -/
abbrev codeS : ByteArray := ⟨#[99, 111, 100, 101]⟩

theorem fail_any (n : Int) (u : TypeId) (v : Value) (w : World) :
    Calls Try.prog 46 #[.int .i64 n, .iface u v] w fun e w' => e = .returned (.iface 79 (.pointer (some ⟨w.heap.size, 0, none⟩))) ∧ w' = w.alloc (.cells #[.string codeS, .int .i64 n, .iface u v] 81) := by
  go_enter Try.func46, Try.ntmps46
  go_wp2
  go_ret
  exact ⟨rfl, rfl⟩
theorem may_any (x : InsD) (n : Int) (lib : Bool) (h0 : 0 ≤ n) (h1 : n ≤ 1000000000000) (w : World) :
    Calls Try.prog 47 #[insV x, .int .i64 n, .bool lib] w fun e w' => e = .returned (.bool (mayF x n lib)) ∧ Ext w w' := by
  by_cases h : okOp x lib = true
  · have e : mayF x n lib = restF x n := by simp [mayF, restF, h]
    rw [e]
    simp only [okOp, Bool.and_eq_true, Bool.not_eq_true', Bool.and_eq_false_iff, Bool.not_eq_false', Bool.or_eq_false_iff, decide_eq_false_iff_not, decide_eq_true_eq] at h
    obtain ⟨⟨⟨h2, h3⟩, h4⟩, h5⟩ := h
    refine may_in x n lib h0 h1 h2 h3 ?_ ?_ w
    · rintro rfl; simpa using h4
    · rintro rfl
      simp only [Bool.false_eq_true, false_or] at h5
      exact ⟨by have := h5.1; omega, h5.2⟩
  · exact may_out x n lib (by simpa using h) w

/-- The instructions l lie in block b from cell 'off' on. -/
def InsAt (w : World) (b off : Nat) (l : List InsD) : Prop :=
  ∀ i (h : i < l.length), w.cell? ⟨b, off + i * 7, none⟩ = some (.int .i64 l[i].op) ∧ w.cell? ⟨b, off + i * 7 + 1, none⟩ = some (.int .i64 l[i].a) ∧ w.cell? ⟨b, off + i * 7 + 2, none⟩ = some (.int .i64 l[i].b) ∧ w.cell? ⟨b, off + i * 7 + 3, none⟩ = some (.int .i64 l[i].c) ∧ w.cell? ⟨b, off + i * 7 + 4, none⟩ = some (.int .u64 l[i].v) ∧ w.cell? ⟨b, off + i * 7 + 5, none⟩ = some (.int .i64 l[i].m) ∧ w.cell? ⟨b, off + i * 7 + 6, none⟩ = some (.int .i64 l[i].wh)

theorem insAt_one {w : World} {b : Nat} {x : InsD} (h0 : w.cell? ⟨b, 0, none⟩ = some (.int .i64 x.op)) (h1 : w.cell? ⟨b, 1, none⟩ = some (.int .i64 x.a)) (h2 : w.cell? ⟨b, 2, none⟩ = some (.int .i64 x.b)) (h3 : w.cell? ⟨b, 3, none⟩ = some (.int .i64 x.c)) (h4 : w.cell? ⟨b, 4, none⟩ = some (.int .u64 x.v)) (h5 : w.cell? ⟨b, 5, none⟩ = some (.int .i64 x.m)) (h6 : w.cell? ⟨b, 6, none⟩ = some (.int .i64 x.wh)) : InsAt w b 0 [x] := by
  intro i hi
  obtain rfl : i = 0 := by simp at hi; omega
  simpa using ⟨h0, h1, h2, h3, h4, h5, h6⟩

theorem InsAt.ext {w w' : World} {b off : Nat} {l : List InsD} (h : InsAt w b off l) (hx : Ext w w') : InsAt w' b off l := by
  intro i hi
  obtain ⟨c0, c1, c2, c3, c4, c5, c6⟩ := h i hi
  have lb := World.block_lt_of_cell? _ _ c0
  exact ⟨(hx.cell (p := ⟨b, off + i * 7, none⟩) lb).trans c0, (hx.cell (p := ⟨b, off + i * 7 + 1, none⟩) lb).trans c1, (hx.cell (p := ⟨b, off + i * 7 + 2, none⟩) lb).trans c2, (hx.cell (p := ⟨b, off + i * 7 + 3, none⟩) lb).trans c3, (hx.cell (p := ⟨b, off + i * 7 + 4, none⟩) lb).trans c4, (hx.cell (p := ⟨b, off + i * 7 + 5, none⟩) lb).trans c5, (hx.cell (p := ⟨b, off + i * 7 + 6, none⟩) lb).trans c6⟩

/-- The place of the first that may not be. -/
def firstBad (p : InsD → Bool) : List InsD → Nat → Option Nat
  | [], _ => none
  | x :: r, i => if p x then firstBad p r (i + 1) else some i
theorem firstBad_drop {p : InsD → Bool} {l : List InsD} {k : Nat} (h : k < l.length) : firstBad p (l.drop k) k = if p l[k] then firstBad p (l.drop (k + 1)) (k + 1) else some k := by
  rw [List.drop_eq_getElem_cons h]; rfl

/-- What a check answers: nil, or an error. -/
def NilOr (w : World) (ok : Bool) (e : Ending) (w' : World) : Prop := ∃ v, e = .returned v ∧ (ok = true → v = .nilIface) ∧ (ok = false → ∃ c, v = .iface 79 (.pointer (some c))) ∧ Ext w w'

set_option maxHeartbeats 1000000 in
theorem check_nil (b off cap : Nat) (l : List InsD) (lib : Bool) (hn : l.length ≤ 2048) (w : World) (hi : InsAt w b off l) :
    Calls Try.prog 35 #[.slice (some ⟨b, off, none⟩) l.length cap, .bool lib] w (NilOr w (firstBad (fun x => mayF x l.length lib) l 0).isNone) := by
  have h1 : ¬ (2048 : Int) < (l.length : Int) := by omega
  have HI := Lib.hid hi
  clear hi
  generalize hp : (fun x => mayF x l.length lib) = p
  have HP := Lib.hid hp
  clear hp
  go_enter Try.func35, Try.ntmps35
  go_wp2_with fail
  go_loopw [14] (fun i wr => ∃ k : Nat, k ≤ l.length ∧ i = .int .i64 k ∧ Ext w wr ∧ firstBad p l 0 = firstBad p (l.drop k) k) (fun i _ => l.length - (intOf i).toNat)
  case atStart => exact ⟨0, Nat.zero_le _, rfl, Below.refl _ _, rfl⟩
  case round =>
    obtain ⟨k, hk, rfl, hx, hall⟩ := hrel
    by_cases hlt : k < l.length
    · obtain ⟨c0, c1, c2, c3, c4, c5, c6⟩ := HI.out k hlt
      have lb := World.block_lt_of_cell? _ _ c0
      rw [← hx.cell (p := ⟨b, off + k * 7, none⟩) lb] at c0
      rw [← hx.cell (p := ⟨b, off + k * 7 + 1, none⟩) lb] at c1
      rw [← hx.cell (p := ⟨b, off + k * 7 + 2, none⟩) lb] at c2
      rw [← hx.cell (p := ⟨b, off + k * 7 + 3, none⟩) lb] at c3
      rw [← hx.cell (p := ⟨b, off + k * 7 + 4, none⟩) lb] at c4
      rw [← hx.cell (p := ⟨b, off + k * 7 + 5, none⟩) lb] at c5
      rw [← hx.cell (p := ⟨b, off + k * 7 + 6, none⟩) lb] at c6
      have hd := firstBad_drop (p := p) hlt
      rw [← hall] at hd
      have HD := Lib.hid hd
      have HX := Lib.hid hx
      have hsz := hx.size
      clear hd hall hx
      generalize hy : l[k] = y at c0 c1 c2 c3 c4 c5 c6 HD
      clear hy
      by_cases hm : mayF y l.length lib = true
      · have HM := Lib.hid (show p y = true by rw [← HP.out]; exact hm)
        go_wp2_with (first | (go_at_call 47; refine (may_any y l.length lib (by omega) (by omega) _).mono ?_; rintro e w1 ⟨rfl, hb⟩; have hx1 : Ext w w1 := HX.out.trans (((ext1 _ _).trans (hb.mono (by simp))).mono hsz); have HX1 := Lib.hid hx1; clear hb hx1) | (go_at_call 46; refine (fail_any _ _ _ _).mono ?_; rintro e w2 ⟨rfl, rfl⟩))
        go_roundw
        case rel => exact ⟨k + 1, by omega, by go_num, HX1.out, by rw [HD.out, if_pos HM.out]⟩
        case measure => simp [intOf]; omega
      · have hmf : mayF y l.length lib = false := by simpa using hm
        have HM := Lib.hid (show ¬ p y = true by rw [← HP.out]; exact hm)
        clear hm
        go_wp2_with (first | (go_at_call 47; refine (may_any y l.length lib (by omega) (by omega) _).mono ?_; rintro e w1 ⟨rfl, hb⟩; have hx1 : Ext w w1 := HX.out.trans (((ext1 _ _).trans (hb.mono (by simp))).mono hsz); have HX1 := Lib.hid hx1; clear hb hx1) | (go_at_call 46; refine (fail_any _ _ _ _).mono ?_; rintro e w2 ⟨rfl, rfl⟩))
        go_ret
        refine ⟨_, rfl, fun h => ?_, fun _ => ⟨_, rfl⟩, HX1.out.trans ((ext1 _ _).mono HX1.out.size)⟩
        rw [HD.out, if_neg HM.out] at h
        cases h
    · have hkn : k = l.length := by omega
      subst hkn
      have HX := Lib.hid hx
      have HA := Lib.hid hall
      clear hx hall
      go_wp2_with fail
      go_ret
      refine ⟨_, rfl, fun _ => rfl, fun h => ?_, HX.out⟩
      rw [HA.out, List.drop_length] at h
      cases h
theorem check_one (b off cap : Nat) (x : InsD) (lib : Bool) (w : World) (hi : InsAt w b off [x]) :
    Calls Try.prog 35 #[.slice (some ⟨b, off, none⟩) 1 cap, .bool lib] w (NilOr w (mayF x 1 lib)) := by
  have h := check_nil b off cap [x] lib (by simp) w hi
  have e : (firstBad (fun y => mayF y ([x].length : Nat) lib) [x] 0).isNone = mayF x 1 lib := by
    show (if mayF x 1 lib then none else some 0 : Option Nat).isNone = _
    cases mayF x 1 lib <;> rfl
  rw [e] at h
  exact h


end Go.Proofs.Ytbnpieehjabcmaa
