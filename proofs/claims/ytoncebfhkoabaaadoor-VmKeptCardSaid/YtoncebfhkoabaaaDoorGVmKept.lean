/- VmKept: for every input the law answers true; its row and its tied card. Condition: the listed variable errors.errorType, tied by the card. -/
import Derived.Test.YtoncebfhkoabaaaDoorY1
import Derived.Test.YtoncebfhkoabaaaDoorG4
namespace Go.Proofs.YtoncebfhkoabaaaDoor
open Go.ChangeShapes Go.WideShapes Go.ChangeAt Go.RowKit

set_option maxRecDepth 100000 in
theorem vmKept_lifted (os : Os) (started : os.Started) (H : Type) (enc : TypeId × Value → H) :
    ReturnsInHanded {} Tryd.checked os 4 .any (fun w args => (Rows.vmKeptSpec.pre enc Tryd.prog Tryd.f4 [] false w args ∧ laidMetH Tryd.prog LaidV w) ∧ sizedMet enc Tryd.prog Tryd.f4 (OpenSpec.ofChange Rows.vmKeptSpec) false w args)
      (Rows.vmKeptSpec.post enc Tryd.prog Tryd.f4 false true false false) := by
  refine lifted_of os started H enc Tryd.func4 (by kernel_rfl) rfl
    (ChangeSpec.witness_at (enc := enc) (C := Tryd.checked) (os := os) (X := fun w _ => laidMetH Tryd.prog LaidV w) false (laidWorld os) #[.int .i64 0, .slice none 0 0, .int .u64 0, .int .i64 0] 8 rfl (by kernel_rfl) (by kernel_rfl) (by kernel_rfl) (by kernel_rfl) (by kernel_rfl) (laidWorld_met os _))
    ?_ rfl ?_ ?_
  · intro t ht
    rw [Tryd.params4] at ht
    simp only [List.mem_cons, List.not_mem_nil, or_false] at ht
    rcases ht with rfl | rfl | rfl | rfl <;> exact ⟨by kernel_rfl, of_decide_eq_true (by kernel_rfl)⟩
  · intro ds h
    have h2 : ds.length = 4 := h
    match ds, h2 with
    | [d0, d1, d2, d3], _ => rfl
  intro W base args ds ps hval hA hwt hg
  rw [Tryd.params4] at hA hval hwt
  obtain ⟨v0, vs0, d0, ds0, p0, q0, hargs, rfl, rfl, h0, r0⟩ := trodAll_cons hA
  obtain ⟨v1, vs1, d1, ds1, p1, q1, rfl, rfl, rfl, h1, r1⟩ := trodAll_cons r0
  obtain ⟨v2, vs2, d2, ds2, p2, q2, rfl, rfl, rfl, h2, r2⟩ := trodAll_cons r1
  obtain ⟨v3, vs3, d3, ds3, p3, q3, rfl, rfl, rfl, h3, r3⟩ := trodAll_cons r2
  obtain ⟨rfl, rfl, rfl⟩ := trodAll_nil r3
  obtain rfl : args = #[v0, v1, v2, v3] := by cases args; simp_all
  obtain ⟨op, rfl, rfl, rfl, hop⟩ := open_int Tryd.underlying3 (hval 0 3 v0 rfl rfl) h0
  obtain ⟨R, cr, regs, rfl, hR, hrr, hreg⟩ := open_u64s (okWide_slice Tryd.underlying23 (hval 1 23 v1 rfl rfl)) h1
  obtain ⟨at_, rfl, rfl, rfl, hat⟩ := open_int Tryd.underlying47 (hval 2 47 v2 rfl rfl) h2
  obtain ⟨pc, rfl, rfl, rfl, hpc⟩ := open_int Tryd.underlying3 (hval 3 3 v3 rfl rfl) h3
  obtain ⟨o1, o2⟩ := i64_bd hop
  obtain ⟨c1, c2⟩ := i64_bd hpc
  have ha : Rng at_ := by
    have h : 0 ≤ at_ ∧ at_ ≤ 18446744073709551615 := by
      simp only [Lit.wf, Bool.and_eq_true, decide_eq_true_eq] at hat
      exact hat
    exact ⟨h.1, by omega⟩
  exact vmKept_walk op R cr regs at_ pc W hreg hR hrr ha o1 o2 c1 c2 hg

theorem vmKept_holds : Rows.VmKeptSaid :=
  OpenClaim.holds_of_wide 4 Tryd.f4 rfl rfl rfl rfl rfl rfl rfl ⟨rfl, rfl, rfl, rfl, rfl⟩ rfl rfl rfl rfl rfl (by kernel_rfl) Tryd.func4 (by kernel_rfl)
    (of_decide_eq_true (by kernel_rfl)) (by unfold Func.isWrapper; rw [if_neg (of_decide_eq_false (by kernel_rfl))]; exact ⟨rfl, rfl⟩)
    (fun os started H enc _ => vmKept_lifted os started H enc)

/-- THE TIED CARD. -/
theorem vmKept_card : Rows.VmKeptCardSaid :=
  Claim7.holds_tied_plain_at .later [] [.handle] true (true, "692608666ff8307751fe62d69a85fb96520b30e05101e9b70796a9cce51ec1a3") true
    vmKept_holds (fun _ h => by cases h) (by kernel_rfl) (fun _ h => by cases h) vmKept_row_tie rfl ⟨rfl, rfl⟩ (by kernel_rfl) rfl
    (fun f fn hf hfn => by
      obtain rfl : f = 4 := Option.some.inj ((show Tryd.prog.funcNamed "distaff/distafflaw06.VmKept" = some 4 by kernel_rfl).symm.trans hf) |>.symm
      obtain rfl : fn = Tryd.f4 := (Option.some.inj (Tryd.func4.symm.trans hfn)).symm
      exact ⟨by kernel_rfl, fun j t ht => by
        rw [Tryd.params4] at ht
        have hm := Array.mem_of_getElem? ht
        simp only [List.mem_toArray, List.mem_cons, List.not_mem_nil, or_false] at hm
        rcases hm with rfl | rfl | rfl | rfl
        · exact (show Tryd.prog.wantsStandIn 3 = false by kernel_rfl)
        · exact (show Tryd.prog.wantsStandIn 23 = false by kernel_rfl)
        · exact (show Tryd.prog.wantsStandIn 47 = false by kernel_rfl)
        · exact (show Tryd.prog.wantsStandIn 3 = false by kernel_rfl)⟩)
    (by kernel_rfl)
#print axioms vmKept_card
end Go.Proofs.YtoncebfhkoabaaaDoor
