/- Walks of code.fail, distaffkeep.No and code.Check: what a check answers of any code, in any memory. -/
import Derived.Test.YtoncebfhkoabaaaDoorA5
import Derived.Test.YtoncebfhkoabaaaDoorA7
import Derived.Test.YtoncebfhkoabaaaDoorB5
namespace Go.Proofs.YtoncebfhkoabaaaDoor
open Go.RowKit Go.Extern.Stop Go.Stop Go.Extern

/-- "code". -/
abbrev codeS : ByteArray := ⟨#[99, 111, 100, 101]⟩

theorem fail_any (n : Int) (u : TypeId) (v : Value) (w : World) :
    Calls Tryd.prog 64 #[.int .i64 n, .iface u v] w fun e w' => e = .returned (.iface 88 (.pointer (some ⟨w.heap.size, 0, none⟩))) ∧ w' = w.alloc (.cells #[.string codeS, .int .i64 n, .iface u v] 92) := by
  go_enter Tryd.func64, Tryd.ntmps64
  go_wp2
  go_ret
  exact ⟨rfl, rfl⟩
theorem no_any (l : ByteArray) (n k : Int) (w : World) :
    Calls Tryd.prog 16 #[.string l, .int .i64 n, .int .i64 k] w fun e w' => ∃ b, e = .returned (.pointer (some ⟨b, 0, none⟩)) ∧ FailAt w' b [(l, n)] k ∧ Ext w w' := by
  go_enter Tryd.func16, Tryd.ntmps16
  go_wp2
  go_ret
  refine ⟨w.heap.size + 1 + 1, rfl, ⟨w.heap.size, w.heap.size + 1, 1, 1, ?_, ?_, ?_, ?_, ?_⟩, ((ext1 _ _).alloc (by simp) _).alloc (by simp; omega) _⟩
  · simp [go_sem]
  · simp [go_sem]
  · simp [go_sem]
  · intro i hi
    obtain rfl : i = 0 := by simp at hi; omega
    simp [go_sem]
  · intro i hi
    obtain rfl : i = 0 := by simp at hi; omega
    simp [go_sem]

theorem may_any (x : InsD) (n : Int) (lib : Bool) (h0 : 0 ≤ n) (h1 : n ≤ 1000000000000) (w : World) :
    Calls Tryd.prog 65 #[insV x, .int .i64 n, .bool lib] w fun e w' => e = .returned (.bool (mayF x n lib)) ∧ Ext w w' := by
  by_cases h : okOp x lib = true
  · have e : mayF x n lib = restF x n := by simp [mayF, restF, h]
    rw [e]
    simp only [okOp, Bool.and_eq_true, Bool.not_eq_true', Bool.and_eq_false_iff, Bool.not_eq_false', Bool.or_eq_false_iff, decide_eq_false_iff_not, decide_eq_true_eq] at h
    obtain ⟨⟨⟨h2, h3⟩, h4⟩, h5⟩ := h
    refine may_in x n lib h0 h1 h2 h3 ?_ ?_ w
    · rintro rfl; simpa using h4
    · rintro rfl
      simp only [Bool.false_eq_true, false_or] at h5
      exact ⟨by have := h5.1; omega, h5.2⟩
  · exact may_out x n lib (by simpa using h) w

/-- The instructions l lie in block b from cell 'off' on. -/
def InsAt (w : World) (b off : Nat) (l : List InsD) : Prop :=
  ∀ i (h : i < l.length), w.cell? ⟨b, off + i * 7, none⟩ = some (.int .i64 l[i].op) ∧ w.cell? ⟨b, off + i * 7 + 1, none⟩ = some (.int .i64 l[i].a) ∧ w.cell? ⟨b, off + i * 7 + 2, none⟩ = some (.int .i64 l[i].b) ∧ w.cell? ⟨b, off + i * 7 + 3, none⟩ = some (.int .i64 l[i].c) ∧ w.cell? ⟨b, off + i * 7 + 4, none⟩ = some (.int .u64 l[i].v) ∧ w.cell? ⟨b, off + i * 7 + 5, none⟩ = some (.int .i64 l[i].m) ∧ w.cell? ⟨b, off + i * 7 + 6, none⟩ = some (.int .i64 l[i].wh)

set_option maxHeartbeats 1000000 in
theorem check_room (a : Option Addr) (n cap : Nat) (lib : Bool) (hn : 2048 < n) (hm : (n : Int) ≤ 9223372036854775807) (w : World) :
    Calls Tryd.prog 47 #[.slice a n cap, .bool lib] w fun e w' => e = .returned (.iface 88 (.pointer (some ⟨w.heap.size, 0, none⟩))) ∧ w' = w.alloc (.cells #[.string codeS, .int .i64 0, .iface 55 (.int .i64 3)] 92) := by
  have h1 : (2048 : Int) < (n : Int) := by omega
  go_enter Tryd.func47, Tryd.ntmps47
  go_wp2_with (first | (go_at_call 64; refine (fail_any _ _ _ _).mono ?_; rintro e w' ⟨rfl, rfl⟩))
  go_ret
  exact ⟨rfl, rfl⟩

/-- The place of the first that may not be. -/
def firstBad (p : InsD → Bool) : List InsD → Nat → Option Nat
  | [], _ => none
  | x :: r, i => if p x then firstBad p r (i + 1) else some i
theorem firstBad_drop {p : InsD → Bool} {l : List InsD} {k : Nat} (h : k < l.length) : firstBad p (l.drop k) k = if p l[k] then firstBad p (l.drop (k + 1)) (k + 1) else some k := by
  rw [List.drop_eq_getElem_cons h]; rfl

/-- What a check answers: nil, or an error at a place. -/
def ErrPost (W : World) (v : Value) : Option (List (ByteArray × Int) × Int) → Prop
  | .none => v = .nilIface
  | some (ls, k) => ∃ c, v = .iface 88 (.pointer (some ⟨c, 0, none⟩)) ∧ Chain W v ls k
def checkF (l : List InsD) (p : InsD → Bool) : Option (List (ByteArray × Int) × Int) :=
  if 2048 < l.length then some ([(codeS, 0)], 3) else (firstBad p l 0).map fun (i : Nat) => ([(codeS, (i : Int))], 5)
def CheckPost (w : World) (r : Option (List (ByteArray × Int) × Int)) (e : Ending) (w' : World) : Prop := ∃ v, e = .returned v ∧ ErrPost w' v r ∧ Ext w w'

set_option maxHeartbeats 1000000 in
theorem check_some (b off cap : Nat) (l : List InsD) (lib : Bool) (hn : l.length ≤ 2048) (w : World) (hi : InsAt w b off l) :
    Calls Tryd.prog 47 #[.slice (some ⟨b, off, none⟩) l.length cap, .bool lib] w (CheckPost w (checkF l (fun x => mayF x l.length lib))) := by
  have h1 : ¬ (2048 : Int) < (l.length : Int) := by omega
  have HF := Lib.hid (show checkF l (fun x => mayF x l.length lib) = (firstBad (fun x => mayF x l.length lib) l 0).map fun (i : Nat) => ([(codeS, (i : Int))], 5) by unfold checkF; rw [if_neg (by omega)])
  have HI := Lib.hid hi
  clear hi
  generalize hp : (fun x => mayF x l.length lib) = p at HF ⊢
  have HP := Lib.hid hp
  clear hp
  go_enter Tryd.func47, Tryd.ntmps47
  go_wp2_with fail
  go_loopw [14] (fun i wr => ∃ k : Nat, k ≤ l.length ∧ i = .int .i64 k ∧ Ext w wr ∧ firstBad p l 0 = firstBad p (l.drop k) k) (fun i _ => l.length - (intOf i).toNat)
  case atStart => exact ⟨0, Nat.zero_le _, rfl, Below.refl _ _, rfl⟩
  case round =>
    obtain ⟨k, hk, rfl, hx, hall⟩ := hrel
    by_cases hlt : k < l.length
    · obtain ⟨c0, c1, c2, c3, c4, c5, c6⟩ := HI.out k hlt
      have lb := World.block_lt_of_cell? _ _ c0
      rw [← hx.cell (p := ⟨b, off + k * 7, none⟩) lb] at c0
      rw [← hx.cell (p := ⟨b, off + k * 7 + 1, none⟩) lb] at c1
      rw [← hx.cell (p := ⟨b, off + k * 7 + 2, none⟩) lb] at c2
      rw [← hx.cell (p := ⟨b, off + k * 7 + 3, none⟩) lb] at c3
      rw [← hx.cell (p := ⟨b, off + k * 7 + 4, none⟩) lb] at c4
      rw [← hx.cell (p := ⟨b, off + k * 7 + 5, none⟩) lb] at c5
      rw [← hx.cell (p := ⟨b, off + k * 7 + 6, none⟩) lb] at c6
      have hd := firstBad_drop (p := p) hlt
      rw [← hall] at hd
      have HD := Lib.hid hd
      have HX := Lib.hid hx
      have hsz := hx.size
      clear hd hall hx
      generalize hy : l[k] = y at c0 c1 c2 c3 c4 c5 c6 HD
      clear hy
      by_cases hm : mayF y l.length lib = true
      · have HM := Lib.hid (show p y = true by rw [← HP.out]; exact hm)
        go_wp2_with (first | (go_at_call 65; refine (may_any y l.length lib (by omega) (by omega) _).mono ?_; rintro e w1 ⟨rfl, hb⟩; have hx1 : Ext w w1 := HX.out.trans (((ext1 _ _).trans (hb.mono (by simp))).mono hsz); have HX1 := Lib.hid hx1; clear hb hx1) | (go_at_call 64; refine (fail_any _ _ _ _).mono ?_; rintro e w2 ⟨rfl, rfl⟩))
        go_roundw
        case rel => exact ⟨k + 1, by omega, by go_num, HX1.out, by rw [HD.out, if_pos HM.out]⟩
        case measure => simp [intOf]; omega
      · have hmf : mayF y l.length lib = false := by simpa using hm
        have HM := Lib.hid (show ¬ p y = true by rw [← HP.out]; exact hm)
        clear hm
        go_wp2_with (first | (go_at_call 65; refine (may_any y l.length lib (by omega) (by omega) _).mono ?_; rintro e w1 ⟨rfl, hb⟩; have hx1 : Ext w w1 := HX.out.trans (((ext1 _ _).trans (hb.mono (by simp))).mono hsz); have HX1 := Lib.hid hx1; clear hb hx1) | (go_at_call 64; refine (fail_any _ _ _ _).mono ?_; rintro e w2 ⟨rfl, rfl⟩))
        go_ret
        refine ⟨_, rfl, ?_, HX1.out.trans ((ext1 _ _).mono HX1.out.size)⟩
        rw [HF.out, HD.out, if_neg HM.out]
        exact ⟨w1.heap.size, rfl, .at_ _ _ _ _ _ _ (by simp) (by simp) (by simp) (.leaf 5)⟩
    · have hkn : k = l.length := by omega
      subst hkn
      have HX := Lib.hid hx
      have HA := Lib.hid hall
      clear hx hall
      go_wp2_with fail
      go_ret
      refine ⟨_, rfl, ?_, HX.out⟩
      rw [HF.out, HA.out, List.drop_length]
      rfl

theorem check_any (b off cap : Nat) (l : List InsD) (lib : Bool) (hm : (l.length : Int) ≤ 9223372036854775807) (w : World) (hi : InsAt w b off l) :
    Calls Tryd.prog 47 #[.slice (some ⟨b, off, none⟩) l.length cap, .bool lib] w (CheckPost w (checkF l (fun x => mayF x l.length lib))) := by
  by_cases h : 2048 < l.length
  · refine (check_room _ _ cap lib h hm w).mono ?_
    rintro e w' ⟨rfl, rfl⟩
    refine ⟨_, rfl, ?_, ext1 _ _⟩
    unfold checkF
    rw [if_pos h]
    exact ⟨w.heap.size, rfl, .at_ _ _ _ _ _ _ (by simp) (by simp) (by simp) (.leaf 3)⟩
  · exact check_some b off cap l lib (by omega) w hi

/-- The document's answer. -/
def FailPost (W : World) (v : Value) : Option (List (ByteArray × Int) × Int) → Prop
  | .none => v = .pointer none
  | some (ls, k) => ∃ c, v = .pointer (some ⟨c, 0, none⟩) ∧ FailAt W c ls k
def RefPost (w : World) (r : Option (List (ByteArray × Int) × Int)) (e : Ending) (w' : World) : Prop := ∃ v, e = .returned v ∧ FailPost w' v r ∧ Ext w w'

end Go.Proofs.YtoncebfhkoabaaaDoor
