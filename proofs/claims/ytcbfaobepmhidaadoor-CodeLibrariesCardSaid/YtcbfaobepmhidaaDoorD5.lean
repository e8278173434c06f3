/- Walk of the document's 'again'. -/
import Derived.Test.YtcbfaobepmhidaaDoorD4
namespace Go.Proofs.YtcbfaobepmhidaaDoor
open Go.RowKit Go.Extern.Stop Go.Stop Go.Extern

theorem checkF_one (l : List InsD) (p : InsD → Bool) (ls : List (ByteArray × Int)) (k : Int) (h : checkF l p = some (ls, k)) : ∃ n, ls = [(codeS, n)] := by
  unfold checkF at h
  split at h
  · cases h; exact ⟨_, rfl⟩
  · cases hb : firstBad p l 0 with
    | none => rw [hb] at h; cases h
    | some i => rw [hb] at h; cases h; exact ⟨_, rfl⟩

set_option maxHeartbeats 2000000 in
set_option maxRecDepth 100000 in
theorem again_any (A : Option Addr) (cap : Nat) (l : List InsD) (lib : Bool) (hm : (l.length : Int) ≤ 9223372036854775807) (w : World) (hi : InsSl w A l) :
    Calls Tryd.prog 35 #[.slice A l.length cap, .bool lib] w (RefPost w (Ans.wrap (checkF l (fun x => mayF x l.length lib)))) := by
  have HI := Lib.hid hi
  have HO := Lib.hid (checkF_one l (fun x => mayF x l.length lib))
  clear hi
  generalize hr : checkF l (fun x => mayF x l.length lib) = r at HO ⊢
  have HR := Lib.hid hr
  clear hr
  go_enter Tryd.func35, Tryd.ntmps35
  go_wp2_with fail
  refine (rcheck_sl A cap l lib hm _ HI.out).mono ?_
  rintro e w1 ⟨v, rfl, hv, hx⟩
  rw [HR.out] at hv
  have HV := Lib.hid hv
  have HX := Lib.hid hx
  clear hv hx
  rcases r with _ | ⟨ls, k⟩
  · obtain rfl : v = .pointer none := HV.out
    go_wp2_with fail
    go_ret
    exact ⟨_, rfl, rfl, HX.out⟩
  · obtain ⟨c, rfl, hc⟩ := HV.out
    obtain ⟨n, rfl⟩ := HO.out ls k rfl
    have HC := Lib.hid hc
    obtain ⟨bl, bp, cl, cp, h0, h1, h2, hs3, hs4⟩ := hc
    have p1 : w1.cell? ⟨c, 1, none⟩ = some (.slice (some ⟨bp, 0, none⟩) 1 cp) := h1
    have p4 : w1.cell? ⟨bp, 0, none⟩ = some (.int .i64 n) := hs4 0 (by simp)
    clear h0 h1 h2 hs3 hs4
    go_wp2_with fail
    refine (in_one codeS codeS n n k c w1 HC.out).mono ?_
    rintro e w2 ⟨v, rfl, hv, hx⟩
    have HV2 := Lib.hid hv
    have X2 := Lib.hid (HX.out.trans (hx.mono HX.out.size))
    clear hv hx
    go_wp2_with fail
    go_ret
    exact ⟨_, rfl, HV2.out, X2.out⟩
end Go.Proofs.YtcbfaobepmhidaaDoor
