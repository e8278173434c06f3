/- Walk of the document's Check: what it answers of any code, in any memory. -/
import Derived.Test.YtcbfaobepmhidaaDoorC1
namespace Go.Proofs.YtcbfaobepmhidaaDoor
open Go.RowKit Go.Extern.Stop Go.Stop Go.Extern

set_option maxHeartbeats 1000000 in
theorem rcheck_some (b off cap : Nat) (l : List InsD) (lib : Bool) (hn : l.length ≤ 2048) (w : World) (hi : InsAt w b off l) :
    Calls Tryd.prog 14 #[.slice (some ⟨b, off, none⟩) l.length cap, .bool lib] w (RefPost w (checkF l (fun x => rightF x l.length lib))) := by
  have h1 : ¬ (2048 : Int) < (l.length : Int) := by omega
  have HF := Lib.hid (show checkF l (fun x => rightF x l.length lib) = (firstBad (fun x => rightF x l.length lib) l 0).map fun (i : Nat) => ([(codeS, (i : Int))], 5) by unfold checkF; rw [if_neg (by omega)])
  have HI := Lib.hid hi
  clear hi
  generalize hp : (fun x => rightF x l.length lib) = p at HF ⊢
  have HP := Lib.hid hp
  clear hp
  go_enter Tryd.func14, Tryd.ntmps14
  go_wp2_with fail
  go_loopw [5] (fun i wr => ∃ k : Nat, k ≤ l.length ∧ i = .int .i64 k ∧ Ext w wr ∧ firstBad p l 0 = firstBad p (l.drop k) k) (fun i _ => l.length - (intOf i).toNat)
  case atStart => exact ⟨0, Nat.zero_le _, rfl, Below.refl _ _, rfl⟩
  case round =>
    obtain ⟨k, hk, rfl, hx, hall⟩ := hrel
    by_cases hlt : k < l.length
    · obtain ⟨c0, c1, c2, c3, c4, c5, c6⟩ := HI.out k hlt
      have lb := World.block_lt_of_cell? _ _ c0
      rw [← hx.cell (p := ⟨b, off + k * 7, none⟩) lb] at c0
      rw [← hx.cell (p := ⟨b, off + k * 7 + 1, none⟩) lb] at c1
      rw [← hx.cell (p := ⟨b, off + k * 7 + 2, none⟩) lb] at c2
      rw [← hx.cell (p := ⟨b, off + k * 7 + 3, none⟩) lb] at c3
      rw [← hx.cell (p := ⟨b, off + k * 7 + 4, none⟩) lb] at c4
      rw [← hx.cell (p := ⟨b, off + k * 7 + 5, none⟩) lb] at c5
      rw [← hx.cell (p := ⟨b, off + k * 7 + 6, none⟩) lb] at c6
      have hd := firstBad_drop (p := p) hlt
      rw [← hall] at hd
      have HD := Lib.hid hd
      have HX := Lib.hid hx
      have hsz := hx.size
      clear hd hall hx
      generalize hy : l[k] = y at c0 c1 c2 c3 c4 c5 c6 HD
      clear hy
      by_cases hm : rightF y l.length lib = true
      · have HM := Lib.hid (show p y = true by rw [← HP.out]; exact hm)
        go_wp2_with (first | (go_at_call 32; refine (right_any y l.length lib (by omega) (by omega) _).mono ?_; rintro e w1 ⟨rfl, hb⟩; have hx1 : Ext w w1 := HX.out.trans (hb.mono hsz); have HX1 := Lib.hid hx1; clear hb hx1) | (go_at_call 20; refine (no_any _ _ _ _).mono ?_; rintro e w2 ⟨b2, rfl, hf2, hx2⟩; have HF2 := Lib.hid hf2; have HX2 := Lib.hid hx2; clear hf2 hx2))
        go_roundw
        case rel => exact ⟨k + 1, by omega, by go_num, HX1.out, by rw [HD.out, if_pos HM.out]⟩
        case measure => simp [intOf]; omega
      · have hmf : rightF y l.length lib = false := by simpa using hm
        have HM := Lib.hid (show ¬ p y = true by rw [← HP.out]; exact hm)
        clear hm
        go_wp2_with (first | (go_at_call 32; refine (right_any y l.length lib (by omega) (by omega) _).mono ?_; rintro e w1 ⟨rfl, hb⟩; have hx1 : Ext w w1 := HX.out.trans (hb.mono hsz); have HX1 := Lib.hid hx1; clear hb hx1) | (go_at_call 20; refine (no_any _ _ _ _).mono ?_; rintro e w2 ⟨b2, rfl, hf2, hx2⟩; have HF2 := Lib.hid hf2; have HX2 := Lib.hid hx2; clear hf2 hx2))
        go_ret
        refine ⟨_, rfl, ?_, HX1.out.trans (HX2.out.mono HX1.out.size)⟩
        rw [HF.out, HD.out, if_neg HM.out]
        exact ⟨b2, rfl, HF2.out⟩
    · have hkn : k = l.length := by omega
      subst hkn
      have HX := Lib.hid hx
      have HA := Lib.hid hall
      clear hx hall
      go_wp2_with fail
      go_ret
      refine ⟨_, rfl, ?_, HX.out⟩
      rw [HF.out, HA.out, List.drop_length]
      rfl


theorem rcheck_any (b off cap : Nat) (l : List InsD) (lib : Bool) (hm : (l.length : Int) ≤ 9223372036854775807) (w : World) (hi : InsAt w b off l) :
    Calls Tryd.prog 14 #[.slice (some ⟨b, off, none⟩) l.length cap, .bool lib] w (RefPost w (checkF l (fun x => rightF x l.length lib))) := by
  by_cases h : 2048 < l.length
  · have e : checkF l (fun x => rightF x l.length lib) = some ([(codeS, 0)], 3) := by unfold checkF; rw [if_pos h]
    rw [e]
    exact rcheck_room _ _ cap lib h hm w
  · exact rcheck_some b off cap l lib (by omega) w hi
end Go.Proofs.YtcbfaobepmhidaaDoor
