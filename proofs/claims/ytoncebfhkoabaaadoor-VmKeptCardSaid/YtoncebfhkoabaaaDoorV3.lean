/- Walks of the document's reg, Value, Address. -/
import Derived.Test.YtoncebfhkoabaaaDoorV1
namespace Go.Proofs.YtoncebfhkoabaaaDoor
open Go.RowKit

theorem rreg_any (n : Int) (w : World) : Calls Tryd.prog 56 #[.int .i64 n] w fun e w' => e = .returned (.bool (decide (0 ≤ n) && decide (n < 32))) ∧ w = w' := by
  go_enter Tryd.func56, Tryd.ntmps56
  go_wp2
  all_goals (go_ret; refine ⟨congrArg (fun b => Ending.returned (.bool b)) ?_, rfl⟩)
  all_goals (simp_all <;> omega)
theorem rvalue_any (b o : Nat) (pc : Int) (r : List Int) (A : Option Addr) (m cap : Nat) (x : InsD) (w : World) (hF : FrAt w b o pc r A m cap) :
    Calls Tryd.prog 35 #[.pointer (some ⟨b, o, none⟩), insV x] w fun e w' => e = .returned (.int .u64 (valueF r x)) ∧ Ext w w' := by
  have F := Lib.hid hF
  have hlt := hF.lt
  clear hF
  unfold valueF
  by_cases h : x.c = -1
  · rw [if_pos h]
    go_enter Tryd.func35, Tryd.ntmps35
    go_wp2_with fail
    go_ret
    exact ⟨rfl, ext1 _ _⟩
  · rw [if_neg h]
    have hd : (x.c == -1) = false := beq_eq_false_iff_ne.2 h
    clear h
    by_cases hr : 0 ≤ x.c ∧ x.c < 32
    · obtain ⟨h0, h1⟩ := hr
      have e : readF r x.c = r.getD x.c.toNat 0 := by unfold readF; rw [if_pos ⟨h0, h1⟩]
      have hc := F.out.r x.c.toNat (by omega)
      have ht : (decide (0 ≤ x.c) && decide (x.c < 32)) = true := by simp [h0, h1]
      rw [e]
      clear e
      go_enter Tryd.func35, Tryd.ntmps35
      go_wp2_with (first | (go_at_call 56; refine (rreg_any _ _).mono ?_; rintro e w' ⟨rfl, rfl⟩; rw [ht]))
      go_quiet (fail)
      go_wp2_with fail
      go_ret
      exact ⟨rfl, (ext1 _ _).trans ⟨rfl, rfl, rfl, Nat.le_refl _, fun _ _ => rfl⟩⟩
    · have e : readF r x.c = 0 := by unfold readF; rw [if_neg hr]
      have ht : (decide (0 ≤ x.c) && decide (x.c < 32)) = false := by simpa using hr
      rw [e]
      clear e hr
      go_enter Tryd.func35, Tryd.ntmps35
      go_wp2_with (first | (go_at_call 56; refine (rreg_any _ _).mono ?_; rintro e w' ⟨rfl, rfl⟩; rw [ht]))
      go_ret
      exact ⟨rfl, ext1 _ _⟩
theorem wrap_small {v : Int} (h0 : 0 ≤ v) (h1 : v < 18446744073709551616) : IntKind.u64.wrap (0 + v) = v := by
  rw [Int.zero_add]
  exact IntWalk.u64_in v ⟨h0, by omega⟩
theorem raddress_any (b o : Nat) (pc : Int) (r : List Int) (A : Option Addr) (m cap : Nat) (x : InsD) (w : World) (hF : FrAt w b o pc r A m cap) (hv0 : 0 ≤ x.v) (hv1 : x.v < 18446744073709551616) :
    Calls Tryd.prog 37 #[.pointer (some ⟨b, o, none⟩), insV x] w fun e w' => e = .returned (.int .u64 (addressF r x)) ∧ Ext w w' := by
  have F := Lib.hid hF
  have hlt := hF.lt
  have HW := Lib.hid (wrap_small hv0 hv1)
  clear hF hv0 hv1
  unfold addressF
  by_cases h : x.b = -1
  · rw [if_pos h]
    go_enter Tryd.func37, Tryd.ntmps37
    go_wp2_with fail
    go_ret
    exact ⟨rfl, ext1 _ _⟩
  · rw [if_neg h]
    have hd : (x.b == -1) = false := beq_eq_false_iff_ne.2 h
    clear h
    by_cases hr : 0 ≤ x.b ∧ x.b < 32
    · obtain ⟨h0, h1⟩ := hr
      have e : readF r x.b = r.getD x.b.toNat 0 := by unfold readF; rw [if_pos ⟨h0, h1⟩]
      have hc := F.out.r x.b.toNat (by omega)
      have ht : (decide (0 ≤ x.b) && decide (x.b < 32)) = true := by simp [h0, h1]
      rw [e]
      clear e
      go_enter Tryd.func37, Tryd.ntmps37
      go_wp2_with (first | (go_at_call 56; refine (rreg_any _ _).mono ?_; rintro e w' ⟨rfl, rfl⟩; rw [ht]))
      go_quiet (fail)
      go_wp2_with fail
      go_ret
      exact ⟨rfl, (ext1 _ _).trans ⟨rfl, rfl, rfl, Nat.le_refl _, fun _ _ => rfl⟩⟩
    · have e : readF r x.b = 0 := by unfold readF; rw [if_neg hr]
      have ht : (decide (0 ≤ x.b) && decide (x.b < 32)) = false := by simpa using hr
      rw [e, HW.out]
      clear e hr
      go_enter Tryd.func37, Tryd.ntmps37
      go_wp2_with (first | (go_at_call 56; refine (rreg_any _ _).mono ?_; rintro e w' ⟨rfl, rfl⟩; rw [ht]))
      go_ret
      exact ⟨rfl, ext1 _ _⟩
end Go.Proofs.YtoncebfhkoabaaaDoor
