/- Walks of vm.there, vm.read, word.Cut, word.Sum, word.Less, vm.Value, vm.Address, vm.flag. -/
import Derived.Test.YtoncebfhkoabaaaDoorV0
import Derived.Deep.QuietTactic
import Derived.BigQuiet
namespace Go.Proofs.YtoncebfhkoabaaaDoor
open Go.RowKit

theorem there_any (n : Int) (w : World) : Calls Tryd.prog 52 #[.int .i64 n] w fun e w' => e = .returned (.bool (decide (0 ≤ n) && decide (n < 32))) ∧ w = w' := by
  go_enter Tryd.func52, Tryd.ntmps52
  go_wp2
  all_goals (go_ret; refine ⟨congrArg (fun b => Ending.returned (.bool b)) ?_, rfl⟩)
  all_goals (simp_all <;> omega)

theorem read_any (b o : Nat) (pc : Int) (r : List Int) (A : Option Addr) (m cap : Nat) (n : Int) (w : World) (hF : FrAt w b o pc r A m cap) :
    Calls Tryd.prog 31 #[.pointer (some ⟨b, o, none⟩), .int .i64 n] w fun e w' => e = .returned (.int .u64 (readF r n)) ∧ w = w' := by
  have F := Lib.hid hF
  clear hF
  by_cases h : 0 ≤ n ∧ n < 32
  · obtain ⟨h0, h1⟩ := h
    have e : readF r n = r.getD n.toNat 0 := by unfold readF; rw [if_pos ⟨h0, h1⟩]
    have hc := F.out.r n.toNat (by omega)
    rw [e]
    clear e
    go_enter Tryd.func31, Tryd.ntmps31
    go_wp2_with (first | (go_at_call 52; refine (there_any _ _).mono ?_; rintro e w' ⟨rfl, rfl⟩))
    go_ret
    exact ⟨rfl, rfl⟩
  · have e : readF r n = 0 := by unfold readF; rw [if_neg h]
    rw [e]
    clear e
    have hd : (decide (0 ≤ n) && decide (n < 32)) = false := by simpa using h
    clear h
    go_enter Tryd.func31, Tryd.ntmps31
    go_wp2_with (first | (go_at_call 52; refine (there_any _ _).mono ?_; rintro e w' ⟨rfl, rfl⟩; rw [hd]))
    go_ret
    exact ⟨rfl, rfl⟩

theorem cut_any (v : Int) (w : World) : Calls Tryd.prog 63 #[.int .i64 64, .int .u64 v] w fun e w' => e = .returned (.int .u64 v) ∧ w = w' := by
  go_enter Tryd.func63, Tryd.ntmps63
  go_wp2
  go_ret
  exact ⟨rfl, rfl⟩
theorem sum_any (a b : Int) (w : World) : Calls Tryd.prog 49 #[.int .i64 64, .int .u64 a, .int .u64 b] w fun e w' => e = .returned (.int .u64 (IntKind.u64.wrap (a + b))) ∧ w = w' := by
  go_enter Tryd.func49, Tryd.ntmps49
  go_wp2_with (first | (go_at_call 63; refine (cut_any _ _).mono ?_; rintro e w' ⟨rfl, rfl⟩))
  go_ret
  exact ⟨rfl, rfl⟩
theorem less_any (a b : Int) (w : World) : Calls Tryd.prog 50 #[.int .i64 64, .int .u64 a, .int .u64 b] w fun e w' => e = .returned (.int .u64 (IntKind.u64.wrap (a - b))) ∧ w = w' := by
  go_enter Tryd.func50, Tryd.ntmps50
  go_wp2_with (first | (go_at_call 63; refine (cut_any _ _).mono ?_; rintro e w' ⟨rfl, rfl⟩))
  go_ret
  exact ⟨rfl, rfl⟩
def flagF (p : Bool) : Int := if p then 1 else 0
theorem flag_any (p : Bool) (w : World) : Calls Tryd.prog 51 #[.bool p] w fun e w' => e = .returned (.int .u64 (flagF p)) ∧ w = w' := by
  cases p
  all_goals
    go_enter Tryd.func51, Tryd.ntmps51
    go_wp2
    go_ret
    exact ⟨rfl, rfl⟩

def valueF (r : List Int) (x : InsD) : Int := if x.c = -1 then x.v else readF r x.c
def addressF (r : List Int) (x : InsD) : Int := if x.b = -1 then x.v else IntKind.u64.wrap (readF r x.b + x.v)
theorem value_any (b o : Nat) (pc : Int) (r : List Int) (A : Option Addr) (m cap : Nat) (x : InsD) (w : World) (hF : FrAt w b o pc r A m cap) :
    Calls Tryd.prog 32 #[.pointer (some ⟨b, o, none⟩), insV x] w fun e w' => e = .returned (.int .u64 (valueF r x)) ∧ Ext w w' := by
  have F := Lib.hid hF
  clear hF
  unfold valueF
  by_cases h : x.c = -1
  · rw [if_pos h]
    go_enter Tryd.func32, Tryd.ntmps32
    go_wp2_with fail
    go_ret
    exact ⟨rfl, ext1 _ _⟩
  · rw [if_neg h]
    have hd : (x.c == -1) = false := beq_eq_false_iff_ne.2 h
    clear h
    go_enter Tryd.func32, Tryd.ntmps32
    go_wp2_with (first | (go_at_call 31; refine (read_any b o pc r A m cap _ _ (F.out.ext (ext1 _ _))).mono ?_; rintro e w' ⟨rfl, rfl⟩))
    go_ret
    exact ⟨rfl, ext1 _ _⟩
theorem FrAt.drewN {w : World} {b o : Nat} {pc : Int} {r : List Int} {A : Option Addr} {n cap : Nat} (h : FrAt w b o pc r A n cap) (k : Nat) : FrAt (w.drewN k) b o pc r A n cap := h.upto (S := fun _ => False) ((Upto.refl _ _).drewN k) (fun h => h)
theorem address_any (b o : Nat) (pc : Int) (r : List Int) (A : Option Addr) (m cap : Nat) (x : InsD) (w : World) (hF : FrAt w b o pc r A m cap) :
    Calls Tryd.prog 48 #[.pointer (some ⟨b, o, none⟩), insV x] w fun e w' => e = .returned (.int .u64 (addressF r x)) ∧ Ext w w' := by
  have F := Lib.hid hF
  clear hF
  unfold addressF
  by_cases h : x.b = -1
  · rw [if_pos h]
    go_enter Tryd.func48, Tryd.ntmps48
    go_wp2_with fail
    go_ret
    exact ⟨rfl, ext1 _ _⟩
  · rw [if_neg h]
    have hd : (x.b == -1) = false := beq_eq_false_iff_ne.2 h
    clear h
    go_enter Tryd.func48, Tryd.ntmps48
    go_wp2_with fail
    go_quiet ((first | (go_at_call 31; exact Calls.quiet_of_same ((read_any b o pc r A m cap _ _ ((F.out.ext (ext1 _ _)).drewN _)).mono fun e w' h => ⟨h.1, h.2.symm⟩)) | (go_at_call 49; exact Calls.quiet_of_same ((sum_any _ _ _).mono fun e w' h => ⟨h.1, h.2.symm⟩))))
    go_wp2_with fail
    go_ret
    exact ⟨rfl, (ext1 _ _).trans ⟨rfl, rfl, rfl, Nat.le_refl _, fun _ _ => rfl⟩⟩
end Go.Proofs.YtoncebfhkoabaaaDoor
