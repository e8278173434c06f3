/- Walk of CodeClients: true for any program. -/
import Derived.Test.YtcbfaobepmhidaaDoorD7
import Derived.Test.YtcbfaobepmhidaaDoorL4
import Derived.Deep.RegionHeld3
namespace Go.Proofs.YtcbfaobepmhidaaDoor
open Go.RowKit Go.Extern.Stop Go.Stop Go.Extern

theorem clientF_good (l : List InsD) (en wd nr : Int) : Ans.good (clientF l en wd nr) := by
  intro ls k h
  unfold clientF at h
  split at h
  · cases h; exact ⟨by simp, by simp, by omega, by omega⟩
  · cases hc : checkF l (fun x => mayF x l.length false) with
    | none =>
      rw [hc] at h
      simp only [Ans.wrap] at h
      unfold placeF at h
      split at h
      · cases h; exact ⟨by simp, by simp, by omega, by omega⟩
      · cases h
    | some r =>
      obtain ⟨ls1, k1⟩ := r
      obtain ⟨n, rfl⟩ := checkF_one _ _ _ _ hc
      obtain ⟨_, _, g3, g4⟩ := checkF_good _ _ _ _ hc
      rw [hc] at h
      simp only [Ans.wrap, Option.some.injEq, Prod.mk.injEq] at h
      obtain ⟨rfl, rfl⟩ := h
      exact ⟨by simp, by simp, g3, g4⟩

set_option maxHeartbeats 4000000 in
set_option maxRecDepth 100000 in
theorem codeClients_walk (A : Option Addr) (cap : Nat) (l : List InsD) (en wd nr : Int) (hb : l.length * 56 ≤ 140737488355328) (w : World) (hi : InsSl w A l) (hg : Gl w) :
    Calls Tryd.prog 8 #[.agg #[.slice A l.length cap, .int .i64 en, .int .i64 wd, .int .i64 nr]] w fun e w' => e = .returned (.bool true) ∧ Ext w w' := by
  have G := Lib.hid hg
  have I := Lib.hid hi
  have RG := Lib.hid (clientF_good l en wd nr)
  generalize hr : clientF l en wd nr = r at RG
  have HR := Lib.hid hr
  clear hr
  clear hg hi
  go_enter Tryd.func8, Tryd.ntmps8
  go_wp2_with fail
  refine (copyProg_any A cap l en wd nr hb _ (I.out.ext (ext1 _ _))).mono ?_
  rintro e w1 ⟨A', c, rfl, hi1, hc1, hx1⟩
  go_wp2_with fail
  have X1 := Lib.hid (show Ext w (w1.alloc (.cells #[.slice A' l.length c, .int .i64 en, .int .i64 wd, .int .i64 nr] 49)).drew from (((ext1 w _).trans (hx1.mono (by simp))).trans ((ext1 w1 _).mono (Nat.le_trans (by simp) hx1.size))).drew)
  have I1 := Lib.hid (hi1.ext (show Ext w1 (w1.alloc (.cells #[.slice A' l.length c, .int .i64 en, .int .i64 wd, .int .i64 nr] 49)).drew from (ext1 w1 _).drew))
  have KS := Lib.hid (show ∀ W, Ext (w1.alloc (.cells #[.slice A' l.length c, .int .i64 en, .int .i64 wd, .int .i64 nr] 49)).drew W → W.cell? ⟨w.heap.size, 0, none⟩ = some (.slice A l.length cap) ∧ W.cell? ⟨w.heap.size, 1, none⟩ = some (.int .i64 en) ∧ W.cell? ⟨w.heap.size, 2, none⟩ = some (.int .i64 wd) ∧ W.cell? ⟨w.heap.size, 3, none⟩ = some (.int .i64 nr) ∧ W.cell? ⟨w1.heap.size, 0, none⟩ = some (.slice A' l.length c) ∧ W.cell? ⟨w1.heap.size, 1, none⟩ = some (.int .i64 en) ∧ W.cell? ⟨w1.heap.size, 2, none⟩ = some (.int .i64 wd) ∧ W.cell? ⟨w1.heap.size, 3, none⟩ = some (.int .i64 nr) from by
    intro W hx
    have hN : w.heap.size < w1.heap.size := Nat.lt_of_lt_of_le (by simp) hx1.size
    have hx2 : Below w1.heap.size w1 W := (ext1 w1 _).drew.trans (Below.mono (B' := w1.heap.size) hx (by simp))
    refine ⟨?_, ?_, ?_, ?_, ?_, ?_, ?_, ?_⟩
    · rw [hx2.cell hN, hx1.cell (by simp)]; simp
    · rw [hx2.cell hN, hx1.cell (by simp)]; simp
    · rw [hx2.cell hN, hx1.cell (by simp)]; simp
    · rw [hx2.cell hN, hx1.cell (by simp)]; simp
    · rw [hx.cell (by simp)]; simp
    · rw [hx.cell (by simp)]; simp
    · rw [hx.cell (by simp)]; simp
    · rw [hx.cell (by simp)]; simp)
  clear hx1 hi1
  go_region_held3 (fun w' => w'.cell? ⟨w.heap.size, 0, none⟩ = some (.slice A l.length cap) ∧ w'.cell? ⟨w.heap.size, 1, none⟩ = some (.int .i64 en) ∧ w'.cell? ⟨w.heap.size, 2, none⟩ = some (.int .i64 wd) ∧ w'.cell? ⟨w.heap.size, 3, none⟩ = some (.int .i64 nr) ∧ w'.cell? ⟨w1.heap.size, 0, none⟩ = some (.slice A' l.length c) ∧ w'.cell? ⟨w1.heap.size, 1, none⟩ = some (.int .i64 en) ∧ w'.cell? ⟨w1.heap.size, 2, none⟩ = some (.int .i64 wd) ∧ w'.cell? ⟨w1.heap.size, 3, none⟩ = some (.int .i64 nr))
    (first | exact KS.out _ (Below.refl _ _) | exact KS.out _ Y2.out | exact KS.out _ Y3.out | exact KS.out _ Y4.out | exact KS.out _ Y5.out | exact KS.out _ Y6.out)
    (first
      | (go_at_call 23; refine (client_any A' c l en wd nr (by omega) _ I1.out (Gl.ext G.out X1.out)).mono ?_; rintro e w2 ⟨v, rfl, hv, hx2⟩
         have Y2 := Lib.hid hx2
         have V2 := Lib.hid (show ErrPost w2 v r by rw [← HR.out]; exact hv)
         clear hx2 hv)
      | (go_at_call 24; refine (rclient_any A cap l en wd nr (by omega) _ (I.out.ext (X1.out.trans (Y2.out.mono X1.out.size)))).mono ?_; rintro e w3 ⟨f, rfl, hf, hx3⟩
         have Y3 := Lib.hid (Y2.out.trans (hx3.mono Y2.out.size))
         have V3 := Lib.hid (V2.out.ext hx3)
         have F3 := Lib.hid (show FailPost w3 f r by rw [← HR.out]; exact hf)
         clear hx3 hf)
      | (go_at_call 12; refine (same_match _ v f r V3.out F3.out RG.out (Gl.ext G.out (X1.out.trans (Y3.out.mono X1.out.size)))).mono ?_; rintro e w4 ⟨rfl, hx4⟩
         have Y4 := Lib.hid (Y3.out.trans (hx4.mono Y3.out.size))
         clear hx4)
      | (go_at_call 15; refine (code_same A A' cap c l (by omega) _ (I.out.ext (X1.out.trans (Y4.out.mono X1.out.size))) (I1.out.ext Y4.out)).mono ?_; rintro e w5 ⟨rfl, n5, rfl⟩
         have Y5 := Lib.hid (Below.trans Y4.out (⟨rfl, rfl, rfl, Nat.le_refl _, fun _ _ => rfl⟩ : Below _ w4 (World.drewN w4 n5))))
      | (go_at_call 16; refine (awake_any _ (Gl.ext G.out (X1.out.trans (Y5.out.mono X1.out.size)))).mono ?_; rintro e w6 ⟨rfl, hx6⟩
         have Y6 := Lib.hid (Y5.out.trans (hx6.mono Y5.out.size))
         clear hx6))
  all_goals
    go_wp2_with fail
    go_ret
    exact ⟨rfl, X1.out.trans (Y6.out.mono X1.out.size)⟩
end Go.Proofs.YtcbfaobepmhidaaDoor
