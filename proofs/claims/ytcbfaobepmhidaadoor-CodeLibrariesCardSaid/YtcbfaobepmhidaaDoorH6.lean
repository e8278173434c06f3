/- Walk of CodeLibraries: true for any library. -/
import Derived.Test.YtcbfaobepmhidaaDoorH5
import Derived.Deep.RegionHeld3
namespace Go.Proofs.YtcbfaobepmhidaaDoor
open Go.RowKit Go.Extern.Stop Go.Stop Go.Extern

set_option maxHeartbeats 4000000 in
set_option maxRecDepth 100000 in
theorem codeLibraries_walk (A : Option Addr) (cap : Nat) (l : List InsD) (lp : Int) (B : Option Addr) (capB : Nat) (ds : List DoorD) (hb : l.length * 56 ≤ 140737488355328) (hd : ds.length * 48 ≤ 140737488355328) (w : World) (hi : InsSl w A l) (hds : DoorsSl w B ds) (hg : Gl w) :
    Calls Tryd.prog 10 #[.agg #[.slice A l.length cap, .int .i64 lp, .slice B ds.length capB]] w fun e w' => e = .returned (.bool true) ∧ Ext w w' := by
  have G := Lib.hid hg
  have I := Lib.hid hi
  have DD := Lib.hid hds
  clear hg hi hds
  by_cases h2000 : 2000 < ds.length
  · have h1 : (2000 : Int) < (ds.length : Int) := by omega
    clear h2000
    go_enter Tryd.func10, Tryd.ntmps10
    go_wp2_with (first | (go_at_call 16; refine (awake_any _ (Gl.ext G.out (ext1 _ _))).mono ?_; rintro e w6 ⟨rfl, hx6⟩; have X6 := Lib.hid ((ext1 _ _).trans (hx6.mono (by simp))); clear hx6))
    go_ret
    exact ⟨rfl, X6.out⟩
  · have h1 : ¬ (2000 : Int) < (ds.length : Int) := by omega
    clear h2000
    have RG := Lib.hid (libraryF_good l lp ds)
    generalize hr : libraryF l lp ds = r at RG
    have HR := Lib.hid hr
    clear hr
    go_enter Tryd.func10, Tryd.ntmps10
    go_wp2_with fail
    have X1 := Lib.hid (show Ext w (w.alloc (.cells #[.slice A l.length cap, .int .i64 lp, .slice B ds.length capB] 57)).drew from (ext1 w _).drew)
    have KS := Lib.hid (show ∀ W, Ext (w.alloc (.cells #[.slice A l.length cap, .int .i64 lp, .slice B ds.length capB] 57)).drew W → W.cell? ⟨w.heap.size, 0, none⟩ = some (.slice A l.length cap) ∧ W.cell? ⟨w.heap.size, 1, none⟩ = some (.int .i64 lp) ∧ W.cell? ⟨w.heap.size, 2, none⟩ = some (.slice B ds.length capB) from by
      intro W hx
      refine ⟨?_, ?_, ?_⟩ <;> (rw [hx.cell (by simp)]; simp))
    go_region_held3 (fun w' => w'.cell? ⟨w.heap.size, 0, none⟩ = some (.slice A l.length cap) ∧ w'.cell? ⟨w.heap.size, 1, none⟩ = some (.int .i64 lp) ∧ w'.cell? ⟨w.heap.size, 2, none⟩ = some (.slice B ds.length capB))
      (first | exact KS.out _ (Below.refl _ _) | exact KS.out _ Y2.out | exact KS.out _ Y3.out | exact KS.out _ Y4.out | exact KS.out _ Y5.out | exact KS.out _ Y6.out)
      (first
        | (go_at_call 26; refine (copyLib_any A cap l lp B capB ds hb hd _ (I.out.ext X1.out) (DD.out.ext X1.out)).mono ?_; rintro e w2 ⟨A', c, B', d, rfl, hi2, hd2, hx2⟩
           have Y2 := Lib.hid hx2
           have I2 := Lib.hid hi2
           have D2 := Lib.hid hd2
           clear hx2 hi2 hd2)
        | (go_at_call 25; refine (library_any A' c l lp B' d ds (by omega) (by omega) _ I2.out D2.out (Gl.ext G.out (X1.out.trans (Y2.out.mono X1.out.size)))).mono ?_; rintro e w3 ⟨v, rfl, hv, hx3⟩
           have Y3 := Lib.hid (Y2.out.trans (hx3.mono Y2.out.size))
           have V3 := Lib.hid (show ErrPost w3 v r by rw [← HR.out]; exact hv)
           clear hx3 hv)
        | (go_at_call 27; refine (rlibrary_any A cap l lp B capB ds (by omega) (by omega) _ (I.out.ext (X1.out.trans (Y3.out.mono X1.out.size))) (DD.out.ext (X1.out.trans (Y3.out.mono X1.out.size)))).mono ?_; rintro e w4 ⟨f, rfl, hf, hx4⟩
           have Y4 := Lib.hid (Y3.out.trans (hx4.mono Y3.out.size))
           have V4 := Lib.hid (V3.out.ext hx4)
           have F4 := Lib.hid (show FailPost w4 f r by rw [← HR.out]; exact hf)
           clear hx4 hf)
        | (go_at_call 12; refine (same_match _ v f r V4.out F4.out RG.out (Gl.ext G.out (X1.out.trans (Y4.out.mono X1.out.size)))).mono ?_; rintro e w5 ⟨rfl, hx5⟩
           have Y5 := Lib.hid (Y4.out.trans (hx5.mono Y4.out.size))
           clear hx5)
        | (go_at_call 16; refine (awake_any _ (Gl.ext G.out (X1.out.trans (Y5.out.mono X1.out.size)))).mono ?_; rintro e w6 ⟨rfl, hx6⟩
           have Y6 := Lib.hid (Y5.out.trans (hx6.mono Y5.out.size))
           clear hx6))
    all_goals
      go_wp2_with fail
      go_ret
      exact ⟨rfl, X1.out.trans (Y6.out.mono X1.out.size)⟩
end Go.Proofs.YtcbfaobepmhidaaDoor
