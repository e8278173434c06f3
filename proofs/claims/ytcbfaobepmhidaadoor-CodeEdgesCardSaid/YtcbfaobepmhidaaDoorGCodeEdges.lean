/- CodeEdges: for every input the law answers true; its row and its tied card. Condition: the listed variable errors.errorType, tied by the card. -/
import Derived.Test.YtcbfaobepmhidaaDoorR1
import Derived.Test.YtcbfaobepmhidaaDoorL3
import Derived.Test.YtcbfaobepmhidaaDoorE1
namespace Go.Proofs.YtcbfaobepmhidaaDoor
open Go.ChangeShapes Go.WideShapes Go.ChangeAt Go.RowKit

set_option maxRecDepth 100000 in
theorem codeEdges_lifted (os : Os) (started : os.Started) (H : Type) (enc : TypeId × Value → H) :
    ReturnsInHanded {} Tryd.checked os 9 .any (fun w args => (Rows.codeEdgesSpec.pre enc Tryd.prog Tryd.f9 [] false w args ∧ laidMetH Tryd.prog LaidV w) ∧ sizedMet enc Tryd.prog Tryd.f9 (OpenSpec.ofChange Rows.codeEdgesSpec) false w args)
      (Rows.codeEdgesSpec.post enc Tryd.prog Tryd.f9 false true false false) := by
  refine lifted_of os started H enc Tryd.func9 (by kernel_rfl) rfl
    (ChangeSpec.witness_at (enc := enc) (C := Tryd.checked) (os := os) (X := fun w _ => laidMetH Tryd.prog LaidV w) false (laidWorld os) #[.int .i64 0, .int .i64 0] 8 rfl (by kernel_rfl) (by kernel_rfl) (by kernel_rfl) (by kernel_rfl) (by kernel_rfl) (laidWorld_met os _))
    ?_ rfl ?_ ?_
  · intro t ht
    rw [Tryd.params9] at ht
    simp only [List.mem_cons, List.not_mem_nil, or_false] at ht
    rcases ht with rfl | rfl <;> exact ⟨by kernel_rfl, of_decide_eq_true (by kernel_rfl)⟩
  · intro ds h
    have h2 : ds.length = 2 := h
    match ds, h2 with
    | [d0, d1], _ => rfl
  intro W base args ds ps hval hA hwt hg
  rw [Tryd.params9] at hA hval hwt
  obtain ⟨v0, v1, d0, d1, p0, p1, rfl, rfl, rfl, h0, h1⟩ := trodAll_two hA
  obtain ⟨n, rfl, rfl, rfl, hn⟩ := open_int Tryd.underlying3 (hval 0 3 v0 rfl rfl) h0
  obtain ⟨m, rfl, rfl, rfl, hm⟩ := open_int Tryd.underlying3 (hval 1 3 v1 rfl rfl) h1
  obtain ⟨hn1, hn2⟩ := i64_bd hn
  obtain ⟨hm1, hm2⟩ := i64_bd hm
  exact codeEdges_walk n m hn1 hn2 hm1 hm2 W hg

theorem codeEdges_holds : Rows.CodeEdgesSaid :=
  OpenClaim.holds_of_wide 9 Tryd.f9 rfl rfl rfl rfl rfl rfl rfl ⟨rfl, rfl, rfl, rfl, rfl⟩ rfl rfl rfl rfl rfl (by kernel_rfl) Tryd.func9 (by kernel_rfl)
    (of_decide_eq_true (by kernel_rfl)) (by unfold Func.isWrapper; rw [if_neg (of_decide_eq_false (by kernel_rfl))]; exact ⟨rfl, rfl⟩)
    (fun os started H enc _ => codeEdges_lifted os started H enc)

/-- THE TIED CARD. -/
theorem codeEdges_card : Rows.CodeEdgesCardSaid :=
  Claim7.holds_tied_plain_at .later [] [.handle] true (true, "a44d0a9b7959637595a64a15b1517e3f4043189e14651462df9f4ef4f04735db") true
    codeEdges_holds (fun _ h => by cases h) (by kernel_rfl) (fun _ h => by cases h) codeEdges_row_tie rfl ⟨rfl, rfl⟩ (by kernel_rfl) rfl
    (fun f fn hf hfn => by
      obtain rfl : f = 9 := Option.some.inj ((show Tryd.prog.funcNamed "distaff/distafflaw04.CodeEdges" = some 9 by kernel_rfl).symm.trans hf) |>.symm
      obtain rfl : fn = Tryd.f9 := (Option.some.inj (Tryd.func9.symm.trans hfn)).symm
      exact ⟨by kernel_rfl, fun j t ht => by
        rw [Tryd.params9] at ht
        have hm := Array.mem_of_getElem? ht
        simp only [List.mem_toArray, List.mem_cons, List.not_mem_nil, or_false] at hm
        rcases hm with rfl | rfl
        · exact (show Tryd.prog.wantsStandIn 3 = false by kernel_rfl)
        · exact (show Tryd.prog.wantsStandIn 3 = false by kernel_rfl)⟩)
    (by kernel_rfl)
#print axioms codeEdges_card
end Go.Proofs.YtcbfaobepmhidaaDoor
