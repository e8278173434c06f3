/- CodeUnused: for every input the law answers true; its row and its tied card. Condition: the listed variable errors.errorType, tied by the card. -/
import Derived.Test.YtcbfaobepmhidaaDoorR1
import Derived.Test.YtcbfaobepmhidaaDoorL3
import Derived.Test.YtcbfaobepmhidaaDoorCX
namespace Go.Proofs.YtcbfaobepmhidaaDoor
open Go.ChangeShapes Go.WideShapes Go.ChangeAt Go.RowKit

set_option maxRecDepth 100000 in
theorem codeUnused_lifted (os : Os) (started : os.Started) (H : Type) (enc : TypeId × Value → H) :
    ReturnsInHanded {} Tryd.checked os 6 .any (fun w args => (Rows.codeUnusedSpec.pre enc Tryd.prog Tryd.f6 [] false w args ∧ laidMetH Tryd.prog LaidV w) ∧ sizedMet enc Tryd.prog Tryd.f6 (OpenSpec.ofChange Rows.codeUnusedSpec) false w args)
      (Rows.codeUnusedSpec.post enc Tryd.prog Tryd.f6 false true false false) := by
  refine lifted_of os started H enc Tryd.func6 (by kernel_rfl) rfl
    (ChangeSpec.witness_at (enc := enc) (C := Tryd.checked) (os := os) (X := fun w _ => laidMetH Tryd.prog LaidV w) false (laidWorld os) #[.agg #[.int .i64 0, .int .i64 0, .int .i64 0, .int .i64 0, .int .u64 0, .int .i64 0, .int .i64 0], .int .i64 0, .int .i64 0] 8 rfl (by kernel_rfl) (by kernel_rfl) (by kernel_rfl) (by kernel_rfl) (by kernel_rfl) (laidWorld_met os _))
    ?_ rfl ?_ ?_
  · intro t ht
    rw [Tryd.params6] at ht
    simp only [List.mem_cons, List.not_mem_nil, or_false] at ht
    rcases ht with rfl | rfl | rfl <;> exact ⟨by kernel_rfl, of_decide_eq_true (by kernel_rfl)⟩
  · intro ds h
    have h2 : ds.length = 3 := h
    match ds, h2 with
    | [d0, d1, d2], _ => rfl
  intro W base args ds ps hval hA hwt hg
  rw [Tryd.params6] at hA hval hwt
  obtain ⟨v0, v1, v2, d0, d1, d2, p0, p1, p2, rfl, rfl, rfl, h0, h1, h2⟩ := trodAll_three hA
  obtain ⟨x, rfl⟩ := open_insV (hval 0 42 v0 rfl rfl) h0
  obtain ⟨n, rfl, rfl, rfl, hn⟩ := open_int Tryd.underlying3 (hval 1 3 v1 rfl rfl) h1
  obtain ⟨q, rfl, rfl, rfl, hq⟩ := open_int Tryd.underlying3 (hval 2 3 v2 rfl rfl) h2
  obtain ⟨hn1, hn2⟩ := i64_bd hn
  obtain ⟨hq1, hq2⟩ := i64_bd hq
  exact codeUnused_walk x n q hn1 hn2 hq1 hq2 W hg

theorem codeUnused_holds : Rows.CodeUnusedSaid :=
  OpenClaim.holds_of_wide 6 Tryd.f6 rfl rfl rfl rfl rfl rfl rfl ⟨rfl, rfl, rfl, rfl, rfl⟩ rfl rfl rfl rfl rfl (by kernel_rfl) Tryd.func6 (by kernel_rfl)
    (of_decide_eq_true (by kernel_rfl)) (by unfold Func.isWrapper; rw [if_neg (of_decide_eq_false (by kernel_rfl))]; exact ⟨rfl, rfl⟩)
    (fun os started H enc _ => codeUnused_lifted os started H enc)

/-- THE TIED CARD. -/
theorem codeUnused_card : Rows.CodeUnusedCardSaid :=
  Claim7.holds_tied_plain_at .later [] [.handle] true (true, "a44d0a9b7959637595a64a15b1517e3f4043189e14651462df9f4ef4f04735db") true
    codeUnused_holds (fun _ h => by cases h) (by kernel_rfl) (fun _ h => by cases h) codeUnused_row_tie rfl ⟨rfl, rfl⟩ (by kernel_rfl) rfl
    (fun f fn hf hfn => by
      obtain rfl : f = 6 := Option.some.inj ((show Tryd.prog.funcNamed "distaff/distafflaw04.CodeUnused" = some 6 by kernel_rfl).symm.trans hf) |>.symm
      obtain rfl : fn = Tryd.f6 := (Option.some.inj (Tryd.func6.symm.trans hfn)).symm
      exact ⟨by kernel_rfl, fun j t ht => by
        rw [Tryd.params6] at ht
        have hm := Array.mem_of_getElem? ht
        simp only [List.mem_toArray, List.mem_cons, List.not_mem_nil, or_false] at hm
        rcases hm with rfl | rfl | rfl
        · exact (show Tryd.prog.wantsStandIn 42 = false by kernel_rfl)
        · exact (show Tryd.prog.wantsStandIn 3 = false by kernel_rfl)
        · exact (show Tryd.prog.wantsStandIn 3 = false by kernel_rfl)⟩)
    (by kernel_rfl)
#print axioms codeUnused_card
end Go.Proofs.YtcbfaobepmhidaaDoor
