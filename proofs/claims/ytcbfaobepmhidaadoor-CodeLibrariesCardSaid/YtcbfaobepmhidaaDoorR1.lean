/- One lemma for every law's row of this seat: from a walk that answers true and turns nothing that was there to the row's step. -/
import Derived.Test.YtcbfaobepmhidaaDoorR0
import Derived.Test.YtcbfaobepmhidaaDoorL2
import Derived.ChangeCalls
namespace Go.Proofs.YtcbfaobepmhidaaDoor
open Go.ChangeShapes Go.WideShapes Go.ChangeAt Go.RowKit

abbrev LaidV {H : Type} : List (String × DataW H) := [("errors.errorType", Rows.laid_errors_errorType)]

set_option maxRecDepth 100000 in
theorem lifted_of {f : FuncId} {fn : Func} {s : ChangeSpec} (os : Os) (started : os.Started) (H : Type) (enc : TypeId × Value → H)
    (hfn : Tryd.prog.funcs[f]? = some fn) (hinit : Tryd.prog.inits.idxOf? f = none) (hvars : s.vars = [])
    (witness : ∃ (w : World) (tape : Tape) (i : Input), w.os = os ∧ (w.forCall tape i).Shaped Tryd.prog ∧ i.vars = [] ∧ Input.okWide Tryd.prog (w.forCall tape i) .any w.heap.size f i ∧
      ((s.pre enc Tryd.prog fn [] false (w.forCall tape i).memory i.args ∧ laidMetH Tryd.prog LaidV (w.forCall tape i).memory) ∧ sizedMet enc Tryd.prog fn (OpenSpec.ofChange s) false (w.forCall tape i).memory i.args) ∧ ({} : Assume).holds Tryd.prog (lone (Frame.enter Tryd.prog f i.args .normal) [] (w.forCall tape i)))
    (hread : ∀ t ∈ fn.params.toList, Tryd.prog.readableRec t = true ∧ t < Tryd.prog.types.size)
    (hres : fn.resultTypes = #[4])
    (hspec : ∀ ds : List (DataW H), ds.length = fn.params.size → s.fn H (ds ++ []) = { results := [.lit (.bool true)], args := ds })
    (walk : ∀ (W : World) (base : Nat) (args : Array Value) (ds : List (DataW H)) (ps : List MemPlace),
      (∀ (j : Nat) t v, fn.params[j]? = some t → args[j]? = some v → Value.okWide Tryd.prog W .any base t v) →
      DataW.TrodAll enc Tryd.prog W 0 (fun _ => true) true fn.params.toList args.toList ds ps →
      (DataW.weightsEach Tryd.prog fn.params.toList ds).all (· ≤ reachBytes) = true → Gl W →
      Calls Tryd.prog f args W fun e w' => e = .returned (.bool true) ∧ Ext W w') :
    ReturnsInHanded {} Tryd.checked os f .any (fun w args => (s.pre enc Tryd.prog fn [] false w args ∧ laidMetH Tryd.prog LaidV w) ∧ sizedMet enc Tryd.prog fn (OpenSpec.ofChange s) false w args)
      (s.post enc Tryd.prog fn false true false false) := by
  refine returnsInHanded_of_change_and (C := Tryd.checked) (X := fun w _ => laidMetH Tryd.prog LaidV w) (fun _ _ _ hh h => h.of_heap hh) Tryd.ownK started hinit hfn witness ?_
  intro W base args ds gs before hval0 hW _ hsz hL _
  have hW' := hW
  obtain ⟨p, q, hA0, hV0, rfl, hfz, hnd⟩ := hW
  have hA : DataW.TrodAll enc Tryd.prog W 0 (fun _ => true) true fn.params.toList args.toList ds p := hA0
  have hV : DataW.TrodVars enc Tryd.prog W (fun _ => true) [] gs q := by rw [hvars] at hV0; exact hV0
  obtain ⟨rfl, rfl⟩ : gs = [] ∧ q = [] := by
    cases gs with
    | nil => exact ⟨rfl, hV⟩
    | cons g r => exact absurd hV (by intro h; cases h)
  have hlen : ds.length = fn.params.size := by
    have := Go.trodAll_length hA
    simp at this
    omega
  have hg := handle_of_laid hL
  have hwt : (DataW.weightsEach Tryd.prog fn.params.toList ds).all (· ≤ reachBytes) = true := by
    have e : s.plain.varTypes Tryd.prog = [] := by unfold DataSpec.varTypes ChangeSpec.plain; rw [hvars]; rfl
    have h2 : (DataW.weightsEach Tryd.prog (fn.params.toList ++ s.plain.varTypes Tryd.prog) (ds ++ [])).all (· ≤ reachBytes) = true := hsz
    rw [e, List.append_nil, List.append_nil] at h2
    exact h2
  refine (walk W base args ds p hval0 hA hwt hg).mono fun e W' ⟨he, hx⟩ => ?_
  subst he
  have e1 := hspec ds hlen
  refine ⟨_, rfl, _, _, _, [], p, [], hW', ?_, ?_, ?_, hx.frame _, fun h => by cases h⟩
  · rw [e1, hres]; exact trodAll_mk1 (shut_bool Tryd.underlying4 true)
  · rw [e1]; exact trodAll_ext hx hread hA (DataW.TrodAll.lt hA)
  · rw [e1, hvars]; rfl
end Go.Proofs.YtcbfaobepmhidaaDoor
