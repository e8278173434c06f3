/- CodeLibraries: for every input the law answers true; its row and its tied card. Condition: the listed variable errors.errorType, tied by the card. -/
import Derived.Test.YtcbfaobepmhidaaDoorR1
import Derived.Test.YtcbfaobepmhidaaDoorL5
import Derived.Test.YtcbfaobepmhidaaDoorH6
namespace Go.Proofs.YtcbfaobepmhidaaDoor
open Go.ChangeShapes Go.WideShapes Go.ChangeAt Go.RowKit

set_option maxRecDepth 100000 in
theorem codeLibraries_lifted (os : Os) (started : os.Started) (H : Type) (enc : TypeId × Value → H) :
    ReturnsInHanded {} Tryd.checked os 10 .any (fun w args => (Rows.codeLibrariesSpec.pre enc Tryd.prog Tryd.f10 [] false w args ∧ laidMetH Tryd.prog LaidV w) ∧ sizedMet enc Tryd.prog Tryd.f10 (OpenSpec.ofChange Rows.codeLibrariesSpec) false w args)
      (Rows.codeLibrariesSpec.post enc Tryd.prog Tryd.f10 false true false false) := by
  refine lifted_of os started H enc Tryd.func10 (by kernel_rfl) rfl
    (ChangeSpec.witness_at (enc := enc) (C := Tryd.checked) (os := os) (X := fun w _ => laidMetH Tryd.prog LaidV w) false (laidWorld os) #[.agg #[.slice none 0 0, .int .i64 0, .slice none 0 0]] 8 rfl (by kernel_rfl) (by kernel_rfl) (by kernel_rfl) (by kernel_rfl) (by kernel_rfl) (laidWorld_met os _))
    ?_ rfl ?_ ?_
  · intro t ht
    rw [Tryd.params10] at ht
    simp only [List.mem_cons, List.not_mem_nil, or_false] at ht
    rcases ht with rfl <;> exact ⟨by kernel_rfl, of_decide_eq_true (by kernel_rfl)⟩
  · intro ds h
    have h2 : ds.length = 1 := h
    match ds, h2 with
    | [d0], _ => rfl
  intro W base args ds ps hval hA hwt hg
  rw [Tryd.params10] at hA hval hwt
  obtain ⟨v0, d0, rfl, rfl, h0⟩ := trodAll_one hA
  obtain ⟨A, cap, l, lp, B, capB, rs, rfl, hi, hds, x0, x1, x2, rfl, hl, hl2⟩ := open_lib (hval 0 57 v0 rfl rfl) h0
  obtain ⟨hb, hd⟩ := lib_sized (j := 0) hwt rfl rfl hl hl2
  exact codeLibraries_walk A cap l lp B capB rs hb hd W hi hds hg

theorem codeLibraries_holds : Rows.CodeLibrariesSaid :=
  OpenClaim.holds_of_wide 10 Tryd.f10 rfl rfl rfl rfl rfl rfl rfl ⟨rfl, rfl, rfl, rfl, rfl⟩ rfl rfl rfl rfl rfl (by kernel_rfl) Tryd.func10 (by kernel_rfl)
    (of_decide_eq_true (by kernel_rfl)) (by unfold Func.isWrapper; rw [if_neg (of_decide_eq_false (by kernel_rfl))]; exact ⟨rfl, rfl⟩)
    (fun os started H enc _ => codeLibraries_lifted os started H enc)

/-- THE TIED CARD. -/
theorem codeLibraries_card : Rows.CodeLibrariesCardSaid :=
  Claim7.holds_tied_plain_at .later [] [.handle] true (true, "a44d0a9b7959637595a64a15b1517e3f4043189e14651462df9f4ef4f04735db") true
    codeLibraries_holds (fun _ h => by cases h) (by kernel_rfl) (fun _ h => by cases h) codeLibraries_row_tie rfl ⟨rfl, rfl⟩ (by kernel_rfl) rfl
    (fun f fn hf hfn => by
      obtain rfl : f = 10 := Option.some.inj ((show Tryd.prog.funcNamed "distaff/distafflaw04.CodeLibraries" = some 10 by kernel_rfl).symm.trans hf) |>.symm
      obtain rfl : fn = Tryd.f10 := (Option.some.inj (Tryd.func10.symm.trans hfn)).symm
      exact ⟨by kernel_rfl, fun j t ht => by
        rw [Tryd.params10] at ht
        have hm := Array.mem_of_getElem? ht
        simp only [List.mem_toArray, List.mem_cons, List.not_mem_nil, or_false] at hm
        rcases hm with rfl
        · exact (show Tryd.prog.wantsStandIn 57 = false by kernel_rfl)⟩)
    (by kernel_rfl)
#print axioms codeLibraries_card
end Go.Proofs.YtcbfaobepmhidaaDoor
