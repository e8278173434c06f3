/- CodeSides: for every input the law answers true; its row and its tied card. Condition: the listed variable errors.errorType, tied by the card. -/
import Derived.Test.YtcbfaobepmhidaaDoorR1
import Derived.Test.YtcbfaobepmhidaaDoorL3
import Derived.Test.YtcbfaobepmhidaaDoorC7
namespace Go.Proofs.YtcbfaobepmhidaaDoor
open Go.ChangeShapes Go.WideShapes Go.ChangeAt Go.RowKit

set_option maxRecDepth 100000 in
theorem codeSides_lifted (os : Os) (started : os.Started) (H : Type) (enc : TypeId × Value → H) :
    ReturnsInHanded {} Tryd.checked os 7 .any (fun w args => (Rows.codeSidesSpec.pre enc Tryd.prog Tryd.f7 [] false w args ∧ laidMetH Tryd.prog LaidV w) ∧ sizedMet enc Tryd.prog Tryd.f7 (OpenSpec.ofChange Rows.codeSidesSpec) false w args)
      (Rows.codeSidesSpec.post enc Tryd.prog Tryd.f7 false true false false) := by
  refine lifted_of os started H enc Tryd.func7 (by kernel_rfl) rfl
    (ChangeSpec.witness_at (enc := enc) (C := Tryd.checked) (os := os) (X := fun w _ => laidMetH Tryd.prog LaidV w) false (laidWorld os) #[.agg #[.int .i64 0, .int .i64 0, .int .i64 0, .int .i64 0, .int .u64 0, .int .i64 0, .int .i64 0], .int .i64 0] 8 rfl (by kernel_rfl) (by kernel_rfl) (by kernel_rfl) (by kernel_rfl) (by kernel_rfl) (laidWorld_met os _))
    ?_ rfl ?_ ?_
  · intro t ht
    rw [Tryd.params7] at ht
    simp only [List.mem_cons, List.not_mem_nil, or_false] at ht
    rcases ht with rfl | rfl <;> exact ⟨by kernel_rfl, of_decide_eq_true (by kernel_rfl)⟩
  · intro ds h
    have h2 : ds.length = 2 := h
    match ds, h2 with
    | [d0, d1], _ => rfl
  intro W base args ds ps hval hA hwt hg
  rw [Tryd.params7] at hA hval hwt
  obtain ⟨v0, v1, d0, d1, p0, p1, rfl, rfl, rfl, h0, h1⟩ := trodAll_two hA
  obtain ⟨x, rfl⟩ := open_insV (hval 0 42 v0 rfl rfl) h0
  obtain ⟨n, rfl, rfl, rfl, hn⟩ := open_int Tryd.underlying3 (hval 1 3 v1 rfl rfl) h1
  obtain ⟨hn1, hn2⟩ := i64_bd hn
  exact codeSides_walk x n hn1 hn2 W hg

theorem codeSides_holds : Rows.CodeSidesSaid :=
  OpenClaim.holds_of_wide 7 Tryd.f7 rfl rfl rfl rfl rfl rfl rfl ⟨rfl, rfl, rfl, rfl, rfl⟩ rfl rfl rfl rfl rfl (by kernel_rfl) Tryd.func7 (by kernel_rfl)
    (of_decide_eq_true (by kernel_rfl)) (by unfold Func.isWrapper; rw [if_neg (of_decide_eq_false (by kernel_rfl))]; exact ⟨rfl, rfl⟩)
    (fun os started H enc _ => codeSides_lifted os started H enc)

/-- THE TIED CARD. -/
theorem codeSides_card : Rows.CodeSidesCardSaid :=
  Claim7.holds_tied_plain_at .later [] [.handle] true (true, "a44d0a9b7959637595a64a15b1517e3f4043189e14651462df9f4ef4f04735db") true
    codeSides_holds (fun _ h => by cases h) (by kernel_rfl) (fun _ h => by cases h) codeSides_row_tie rfl ⟨rfl, rfl⟩ (by kernel_rfl) rfl
    (fun f fn hf hfn => by
      obtain rfl : f = 7 := Option.some.inj ((show Tryd.prog.funcNamed "distaff/distafflaw04.CodeSides" = some 7 by kernel_rfl).symm.trans hf) |>.symm
      obtain rfl : fn = Tryd.f7 := (Option.some.inj (Tryd.func7.symm.trans hfn)).symm
      exact ⟨by kernel_rfl, fun j t ht => by
        rw [Tryd.params7] at ht
        have hm := Array.mem_of_getElem? ht
        simp only [List.mem_toArray, List.mem_cons, List.not_mem_nil, or_false] at hm
        rcases hm with rfl | rfl
        · exact (show Tryd.prog.wantsStandIn 42 = false by kernel_rfl)
        · exact (show Tryd.prog.wantsStandIn 3 = false by kernel_rfl)⟩)
    (by kernel_rfl)
#print axioms codeSides_card
end Go.Proofs.YtcbfaobepmhidaaDoor
