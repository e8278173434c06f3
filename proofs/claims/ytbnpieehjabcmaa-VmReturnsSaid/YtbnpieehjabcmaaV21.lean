/- Walk of the statements' 'one': an instruction that reckons, alone over a frame. -/
import Derived.Test.YtbnpieehjabcmaaV20
namespace Go.Proofs.Ytbnpieehjabcmaa
open Go.RowKit

theorem FrB.setPc {M : Nat → Prop} {w : World} {b o : Nat} {pc : Int} {r bk : List Int} (h : FrB M w b o pc r bk) (hMb : M b) (v : Int) : FrB M (w.setCell ⟨b, o, none⟩ (.int .i64 v)) b o v r bk := by
  obtain ⟨A, cap, hF, hB, hc, hM⟩ := h
  exact ⟨A, cap, hF.setPc v, hB.upto (S := (· = b)) ((Upto.refl _ _).setB _ _) (fun hn a e hs => hM hn a e (hs ▸ hMb)), hc, hM⟩
def apR (x : InsD) (r : List Int) : List Int := r.set x.a.toNat (reckonF x.op x.v (readF r x.b) (valueF r x))

set_option maxHeartbeats 2000000 in
theorem one_any (fb : Nat) (x : InsD) (pc : Int) (r : List Int) (W : World) (hF : FrB (· = fb) W fb 0 pc r []) (hv : vmayF x 1 = true) (hop : 1 ≤ x.op ∧ x.op ≤ 11) (ha0 : 0 ≤ x.a) (ha1 : x.a < 32) :
    Calls Try.prog 13 #[.pointer (some ⟨fb, 0, none⟩), insV x] W fun e w' => e = .returned (.bool true) ∧ FrB (· = fb) w' fb 0 1 (apR x r) [] ∧ Upto (· = fb) W w' := by
  have F := Lib.hid hF
  obtain ⟨A, cap, hFr, _, _, _⟩ := hF
  have h0 := hFr.pc
  have hz := hFr.fz0
  have hlt := hFr.lt
  have HV := Lib.hid hv
  clear hFr hv
  unfold apR
  go_enter Try.func13, Try.ntmps13
  go_wp2_with fail
  refine (step_reckon (· = fb) fb 0 (W.heap.size + 1) 0 1 [x] r [] _ _ 0 x.op x.a x.b x.c x.v x.m x.wh (((F.out.setPc rfl 0).ext (ext1 _ _)).ext (ext1 _ _)) ?_ (by simp) (by simp) rfl HV.out hop ha0 ha1 rfl).mono ?_
  · have h := ins_in2 (W.setCell ⟨fb, 0, none⟩ (.int .i64 0)) (.cells #[.int .i64 x.op, .int .i64 x.a, .int .i64 x.b, .int .i64 x.c, .int .u64 x.v, .int .i64 x.m, .int .i64 x.wh] 24) x
    simpa using h
  · rintro e w2 ⟨rfl, hF2, hU2⟩
    have F2 := Lib.hid hF2
    have U2 := Lib.hid ((((Upto.refl (· = fb) W).setB 0 (.int .i64 0)).alloc _).alloc _ |>.trans hU2)
    clear hF2 hU2
    go_wp2_with fail
    go_ret
    exact ⟨rfl, F2.out, U2.out⟩
end Go.Proofs.Ytbnpieehjabcmaa
