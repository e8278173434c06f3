/- Walk of vm.Step at an access of a cell that is there. -/
import Derived.Test.YtoncebfhkoabaaaDoorV16
import Derived.Test.YtoncebfhkoabaaaDoorV7
namespace Go.Proofs.YtoncebfhkoabaaaDoor
open Go.RowKit
section
variable (M : Nat → Prop) (b o bc off ccap : Nat) (l : List InsD) (r bk : List Int) (mp : Nat) (w : World) (m c d : Nat) (cs' ws : List Int) (th ct' : Int)
set_option maxRecDepth 100000 in
set_option maxHeartbeats 8000000 in
theorem step_cell (k : Nat) (op x1 x2 x3 v mm wh res : Int) (hF : FrB M w b o k r bk) (hi : InsAt w bc off l) (hlen : l.length ≤ 1000000) (hk : k < l.length) (hx : l[k] = ⟨op, x1, x2, x3, v, mm, wh⟩) (hv : vmayF ⟨op, x1, x2, x3, v, mm, wh⟩ l.length = true)
    (hop : op = 17 ∨ op = 18 ∨ op = 19 ∨ op = 20 ∨ op = 21) (ha0 : 0 ≤ x1) (ha1 : x1 < 32) (hMb : M b) (hMm : M m) (hMc : M c) (hbm : b ≠ m) (hbc : b ≠ c) (hbd : b ≠ d) (lm : m < w.heap.size) (lc : c < w.heap.size)
    (hacc : ∀ W, Ext w W → Calls Tryd.prog 28 #[.pointer (some ⟨b, o, none⟩), insA op x1 x2 x3 v mm wh, .iface 25 (.pointer (some ⟨mp, 0, none⟩))] W fun e w' =>
      e = .returned (.tuple #[.int .u64 res, .nilIface]) ∧ MemAt w' m c d cs' ws th ct' ∧ Upto (fun q => q = m ∨ q = c) W w') :
    Calls Tryd.prog 10 #[.pointer (some ⟨b, o, none⟩), .slice (some ⟨bc, off, none⟩) l.length ccap, .iface 25 (.pointer (some ⟨mp, 0, none⟩))] w fun e w' =>
      e = .returned (.tuple #[.int .i64 0, .nilIface]) ∧ FrB M w' b o (k + 1) (r.set x1.toNat res) bk ∧ MemAt w' m c d cs' ws th ct' ∧ Upto (fun q => q = b ∨ q = m ∨ q = c) w w' := by
  obtain ⟨A2, cap, hFr, hB, hcap, hM⟩ := hF
  have h0 := hFr.pc
  obtain ⟨c0, c1, c2, c3, c4, c5, c6⟩ := hi k hk
  rw [hx] at c0 c1 c2 c3 c4 c5 c6
  have lb0 := World.block_lt_of_cell? _ _ h0
  have lb1 := World.block_lt_of_cell? _ _ c0
  have h1 : (k : Int) < (l.length : Int) := by omega
  have h2 : (0 : Int) ≤ (k : Int) := by omega
  have HV := Lib.hid hv
  have HF := Lib.hid hFr
  have HB := Lib.hid hB
  have HM := Lib.hid hM
  have HA := Lib.hid hacc
  clear hFr hB hM hv hx hi hacc
  simp only at c0 c1 c2 c3 c4 c5 c6
  unfold FrB
  rcases hop with rfl | rfl | rfl | rfl | rfl
  all_goals
    go_enter Tryd.func10, Tryd.ntmps10
    go_upto_region 22 with (first
      | (go_at_call 26; refine (vmay_any ⟨_, x1, x2, x3, v, mm, wh⟩ l.length (by omega) (by omega) _).mono ?_; rintro e w1 ⟨rfl, hb⟩; rw [HV.out]
         have d0 := (hb.cell (p := ⟨b, o, none⟩) lb0).trans h0
         have e0 := (hb.cell (p := ⟨bc, off + k * 7, none⟩) lb1).trans c0
         have e1 := (hb.cell (p := ⟨bc, off + k * 7 + 1, none⟩) lb1).trans c1
         have e2 := (hb.cell (p := ⟨bc, off + k * 7 + 2, none⟩) lb1).trans c2
         have e3 := (hb.cell (p := ⟨bc, off + k * 7 + 3, none⟩) lb1).trans c3
         have e4 := (hb.cell (p := ⟨bc, off + k * 7 + 4, none⟩) lb1).trans c4
         have e5 := (hb.cell (p := ⟨bc, off + k * 7 + 5, none⟩) lb1).trans c5
         have e6 := (hb.cell (p := ⟨bc, off + k * 7 + 6, none⟩) lb1).trans c6
         have X1 := Lib.hid hb; clear hb)
      | (go_at_call 28; refine (HA.out _ (X1.out.trans ((ext1 _ _).mono X1.out.size))).mono ?_; rintro e w2 ⟨rfl, hm2, hu2⟩
         have M2 := Lib.hid hm2
         have U2 := Lib.hid ((Upto.of_ext (X1.out.trans ((ext1 _ _).mono X1.out.size))).trans hu2)
         have hsz := X1.out.size
         have t1 : w2.cell? ⟨w1.heap.size, 1, none⟩ = some (.int .i64 x1) := (hu2.cell (p := ⟨w1.heap.size, 1, none⟩) (by simp) (by simp; omega)).trans (by simp)
         have hF2 := HF.out.upto U2.out (by simp; omega)
         have hr2 := hF2.r x1.toNat (by omega)
         have hf2 := hF2.fz (1 + x1.toNat) (by omega)
         rw [← Nat.add_assoc] at hf2
         have F2 := Lib.hid hF2
         clear hm2 hu2 hF2))
    go_region
    have p4 := F2.out.pc
    have z4 := F2.out.fz0
    clear hr2 hf2 t1
    go_wp2_with fail
    go_ret2
    exact ⟨rfl, ⟨A2, cap, ((F2.out.setR x1.toNat (by omega) res).setPc _).ext (Below.refl _ _).drew,
      HB.out.upto (((U2.out.mono (T := M) (by rintro q _ (rfl | rfl) <;> assumption)).setCell (p := ⟨b, _, none⟩) hMb _).setCell (p := ⟨b, _, none⟩) hMb _).drew (fun hn a e => HM.out hn a e), hcap, HM.out⟩,
      M2.out.upto (S := (· = b)) (((Upto.refl _ _).setB _ _).setB _ _).drew (by omega) (by omega) (by omega),
      ((U2.out.mono (T := fun q => q = b ∨ q = m ∨ q = c) (by rintro q _ (rfl | rfl) <;> simp)).setCell (p := ⟨b, _, none⟩) (.inl rfl) _).setCell (p := ⟨b, _, none⟩) (.inl rfl) _ |>.drew⟩
end
end Go.Proofs.YtoncebfhkoabaaaDoor
