/- Walk of mem.access. -/
import Derived.Test.YtoncebfhkoabaaaDoorV8
import Derived.Deep.RegionHeld3
import Derived.Deep.RegionWith
namespace Go.Proofs.YtoncebfhkoabaaaDoor
open Go.RowKit

/-- What a cell holds behind an access. -/
def newF (kind wd held old v : Int) : Int := if kind = 3 then sumF wd held v else if kind = 4 then (if held = cutF wd old then cutF wd v else held) else if kind = 0 then held else cutF wd v
theorem set_self (l : List Int) (k : Nat) (h : k < l.length) : l.set k (l.getD k 0) = l := by
  apply List.ext_getElem?
  intro i
  rw [List.getElem?_set]
  by_cases e : k = i
  · subst e; simp [List.getD_eq_getElem?_getD, h]
  · simp [e]
/-- "mem". -/
abbrev memS : ByteArray := ⟨#[109, 101, 109]⟩
def AccPost (w : World) (m c d : Nat) (cs ws : List Int) (th ct : Int) (k : Nat) (nw : Int) (e : Ending) (w' : World) : Prop :=
  e = .returned (.tuple #[.int .u64 (cs.getD k 0), .nilIface]) ∧ MemAt w' m c d (cs.set k nw) ws th (ct + 1) ∧ Upto (fun b => b = m ∨ b = c) w w'
section
variable (m c d : Nat) (cs ws : List Int) (th ct : Int) (w : World)
theorem Upto.setM {w w' : World} {m c : Nat} (h : Upto (fun b => b = m ∨ b = c) w w') (o : Nat) (u : Value) : Upto (fun b => b = m ∨ b = c) w (w'.setCell ⟨m, o, none⟩ u) := h.setCell (p := ⟨m, o, none⟩) (.inl rfl) u
theorem Upto.setK {w w' : World} {m c : Nat} (h : Upto (fun b => b = m ∨ b = c) w w') (o : Nat) (u : Value) : Upto (fun b => b = m ∨ b = c) w (w'.setCell ⟨c, o, none⟩ u) := h.setCell (p := ⟨c, o, none⟩) (.inr rfl) u
theorem mfail_any (n : Int) (u : TypeId) (v : Value) (w : World) :
    Calls Tryd.prog 40 #[.int .i64 n, .iface u v] w fun e w' => e = .returned (.iface 88 (.pointer (some ⟨w.heap.size, 0, none⟩))) ∧ w' = w.alloc (.cells #[.string memS, .int .i64 n, .iface u v] 92) := by
  go_enter Tryd.func40, Tryd.ntmps40
  go_wp2
  go_ret
  exact ⟨rfl, rfl⟩

set_option maxHeartbeats 4000000 in
set_option maxRecDepth 100000 in
theorem access_hit (kind : Int) (k : Nat) (old v : Int) (hk : kind = 0 ∨ kind = 1 ∨ kind = 2 ∨ kind = 3 ∨ kind = 4) (hM : MemAt w m c d cs ws th ct) (hlt : k < cs.length) (hw : ws.getD k 0 ≠ 0) (hc0 : 0 ≤ ct) (hc1 : ct ≤ 1000000000000000) :
    Calls Tryd.prog 43 #[.pointer (some ⟨m, 0, none⟩), .int .i64 kind, .int .u64 k, .int .u64 old, .int .u64 v] w (AccPost w m c d cs ws th ct k (newF kind (ws.getD k 0) (cs.getD k 0) old v)) := by
  have hwf : widthF ws k = ws.getD k 0 := by unfold widthF; rw [if_pos ⟨by omega, by rw [hM.len]; omega⟩]; simp
  have hss := set_self cs k hlt
  have hne : (ws.getD k 0 == 0) = false := beq_eq_false_iff_ne.2 hw
  have H := Lib.hid hM
  have WF := Lib.hid hwf
  have SS := Lib.hid hss
  have p1 := hM.pc
  have p3 := hM.hcs k hlt
  have p4 := hM.fc k hlt
  have p5 := hM.hct
  have p6 := hM.fm 3 (by omega)
  have hmc := hM.mc
  have hcm := hmc.symm
  have hbig := hM.big
  clear hM hwf hss hw
  unfold AccPost
  generalize hwd : ws.getD k 0 = wd at *
  have HWD := Lib.hid hwd
  clear hwd
  generalize hheld : cs.getD k 0 = held at *
  have HH := Lib.hid hheld
  clear hheld
  have q1 : (w.setCell ⟨m, 3, none⟩ (.int .i64 (ct + 1))).cell? ⟨m, 0, none⟩ = some (.slice (some ⟨c, 0, none⟩) cs.length cs.length) := (H.out.setCt (ct + 1)).pc
  have q3 : (w.setCell ⟨m, 3, none⟩ (.int .i64 (ct + 1))).cell? ⟨c, k, none⟩ = some (.int .u64 held) := by rw [(H.out.setCt (ct + 1)).hcs k hlt, HH.out]
  have q4 : (w.setCell ⟨m, 3, none⟩ (.int .i64 (ct + 1))).frozen? ⟨c, k, none⟩ = false := (H.out.setCt (ct + 1)).fc k hlt
  have hk2 : (k : Int) < (cs.length : Int) := by omega
  have hk0 : (0 : Int) ≤ (k : Int) := by omega
  generalize hnn : cs.length = n at *
  have HN := Lib.hid hnn
  clear hnn p1 p3 p4
  rcases hk with rfl | rfl | rfl | rfl | rfl
  · go_enter Tryd.func43, Tryd.ntmps43
    go_wp2_with (first | (go_at_call 62; refine (width_any m c d cs ws th ct _ _ (by omega) H.out).mono ?_; rintro e w' ⟨rfl, rfl⟩; rw [WF.out]))
    go_ret2
    refine ⟨rfl, ?_, (Upto.refl _ _).setM _ _⟩
    have e : newF 0 wd held old v = held := rfl
    rw [e, SS.out]
    exact H.out.setCt _
  · have e : newF 1 wd held old v = cutF wd v := rfl
    rw [e]
    clear e
    go_enter Tryd.func43, Tryd.ntmps43
    go_upto_region 16 with (first | (go_at_call 62; refine (width_any m c d cs ws th ct _ _ (by omega) H.out).mono ?_; rintro e w' ⟨rfl, rfl⟩; rw [WF.out]))
    go_region_held3 (fun w' => w'.cell? ⟨m, 0, none⟩ = some (.slice (some ⟨c, 0, none⟩) n n))
      (first | go_keep | (rw [World.cell?_setCell_far _ _ _ _ (by simpa using hcm)]; assumption))
      (first | (go_at_call 63; refine (cutw_any _ _ _).mono ?_; rintro e w' ⟨rfl, rfl⟩))
    go_wp2_with fail
    go_ret2
    refine ⟨rfl, ?_, ((Upto.refl _ _).setM _ _).drew.setK _ _⟩
    exact (((H.out.setCt _).ext (Below.refl _ _).drew).setC k (by rw [HN.out]; omega) _)
  · have e : newF 2 wd held old v = cutF wd v := rfl
    rw [e]
    clear e
    go_enter Tryd.func43, Tryd.ntmps43
    go_upto_region 16 with (first | (go_at_call 62; refine (width_any m c d cs ws th ct _ _ (by omega) H.out).mono ?_; rintro e w' ⟨rfl, rfl⟩; rw [WF.out]))
    go_region_held3 (fun w' => w'.cell? ⟨m, 0, none⟩ = some (.slice (some ⟨c, 0, none⟩) n n))
      (first | go_keep | (rw [World.cell?_setCell_far _ _ _ _ (by simpa using hcm)]; assumption))
      (first | (go_at_call 63; refine (cutw_any _ _ _).mono ?_; rintro e w' ⟨rfl, rfl⟩))
    go_wp2_with fail
    go_ret2
    refine ⟨rfl, ?_, ((Upto.refl _ _).setM _ _).drew.setK _ _⟩
    exact (((H.out.setCt _).ext (Below.refl _ _).drew).setC k (by rw [HN.out]; omega) _)
  · have e : newF 3 wd held old v = sumF wd held v := rfl
    rw [e]
    clear e
    go_enter Tryd.func43, Tryd.ntmps43
    go_upto_region 14 with (first | (go_at_call 62; refine (width_any m c d cs ws th ct _ _ (by omega) H.out).mono ?_; rintro e w' ⟨rfl, rfl⟩; rw [WF.out]))
    go_region_held3 (fun w' => w'.cell? ⟨m, 0, none⟩ = some (.slice (some ⟨c, 0, none⟩) n n))
      (first | go_keep | (rw [World.cell?_setCell_far _ _ _ _ (by simpa using hcm)]; assumption))
      (first | (go_at_call 49; refine (sumw_any _ _ _ _).mono ?_; rintro e w' ⟨rfl, rfl⟩))
    go_wp2_with fail
    go_ret2
    refine ⟨rfl, ?_, ((Upto.refl _ _).setM _ _).drew.setK _ _⟩
    exact (((H.out.setCt _).ext (Below.refl _ _).drew).setC k (by rw [HN.out]; omega) _)
  · by_cases hold : held = cutF wd old
    · have e : newF 4 wd held old v = cutF wd v := by show (if held = cutF wd old then cutF wd v else held) = _; rw [if_pos hold]
      rw [e]
      clear e
      have HO := Lib.hid (show (held != cutF wd old) = false by simp [hold])
      clear hold
      go_enter Tryd.func43, Tryd.ntmps43
      go_upto_region 16 with (first | (go_at_call 62; refine (width_any m c d cs ws th ct _ _ (by omega) H.out).mono ?_; rintro e w' ⟨rfl, rfl⟩; rw [WF.out]) | (go_at_call 63; refine (cutw_any _ _ _).mono ?_; rintro e w' ⟨rfl, rfl⟩; have ho := HO.out))
      go_region_held3 (fun w' => w'.cell? ⟨m, 0, none⟩ = some (.slice (some ⟨c, 0, none⟩) n n))
        (first | go_keep | (rw [World.cell?_setCell_far _ _ _ _ (by simpa using hcm)]; assumption))
        (first | (go_at_call 63; refine (cutw_any _ _ _).mono ?_; rintro e w' ⟨rfl, rfl⟩))
      go_wp2_with fail
      go_ret2
      refine ⟨rfl, ?_, ((Upto.refl _ _).setM _ _).drew.setK _ _⟩
      exact (((H.out.setCt _).ext (Below.refl _ _).drew).setC k (by rw [HN.out]; omega) _)

    · have e : newF 4 wd held old v = held := by show (if held = cutF wd old then cutF wd v else held) = _; rw [if_neg hold]
      rw [e, SS.out]
      clear e
      have HO := Lib.hid (show (held != cutF wd old) = true by simpa using hold)
      clear hold
      go_enter Tryd.func43, Tryd.ntmps43
      go_wp2_with (first | (go_at_call 62; refine (width_any m c d cs ws th ct _ _ (by omega) H.out).mono ?_; rintro e w' ⟨rfl, rfl⟩; rw [WF.out]) | (go_at_call 63; refine (cutw_any _ _ _).mono ?_; rintro e w' ⟨rfl, rfl⟩; have ho := HO.out))
      go_ret2
      exact ⟨rfl, H.out.setCt _, (Upto.refl _ _).setM _ _⟩

def missN (a : Int) : Int := if a ≤ 4611686018427387904 then a else 0
theorem access_miss (kind a old v : Int) (hM : MemAt w m c d cs ws th ct) (h0 : 0 ≤ a) (h1 : a < 18446744073709551616) (hw : widthF ws a = 0) :
    Calls Tryd.prog 43 #[.pointer (some ⟨m, 0, none⟩), .int .i64 kind, .int .u64 a, .int .u64 old, .int .u64 v] w fun e w' => e = .returned (.tuple #[.int .u64 0, .iface 88 (.pointer (some ⟨w.heap.size, 0, none⟩))]) ∧ w' = w.alloc (.cells #[.string memS, .int .i64 (missN a), .iface 55 (.int .i64 2)] 92) := by
  have H := Lib.hid hM
  have WF := Lib.hid hw
  clear hM hw
  unfold missN
  by_cases h : a ≤ 4611686018427387904
  · rw [if_pos h]
    go_enter Tryd.func43, Tryd.ntmps43
    go_wp2_with (first | (go_at_call 62; refine (width_any m c d cs ws th ct _ _ (by omega) H.out).mono ?_; rintro e w' ⟨rfl, rfl⟩; rw [WF.out]) | (go_at_call 40; refine (mfail_any _ _ _ _).mono ?_; rintro e w' ⟨rfl, rfl⟩))
    go_ret2
    exact ⟨rfl, rfl⟩
  · rw [if_neg h]
    go_enter Tryd.func43, Tryd.ntmps43
    go_wp2_with (first | (go_at_call 62; refine (width_any m c d cs ws th ct _ _ (by omega) H.out).mono ?_; rintro e w' ⟨rfl, rfl⟩; rw [WF.out]) | (go_at_call 40; refine (mfail_any _ _ _ _).mono ?_; rintro e w' ⟨rfl, rfl⟩))
    go_ret2
    exact ⟨rfl, rfl⟩

/-- A memory and what an access by the five methods leaves: of a cell that is there. -/
theorem load_hit (k : Nat) (hM : MemAt w m c d cs ws th ct) (hlt : k < cs.length) (hw : ws.getD k 0 ≠ 0) (hc0 : 0 ≤ ct) (hc1 : ct ≤ 1000000000000000) :
    Calls Tryd.prog 25 #[.pointer (some ⟨m, 0, none⟩), .int .u64 k] w (AccPost w m c d cs ws th ct k (cs.getD k 0)) := by
  have C := Lib.hid (access_hit m c d cs ws th ct w 0 k 0 0 (by omega) hM hlt hw hc0 hc1)
  clear hM hlt hw
  unfold AccPost at *
  go_enter Tryd.func25, Tryd.ntmps25
  go_wp2_with (first | (go_at_call 43; refine C.out.mono ?_; rintro e w' ⟨rfl, h1, h2⟩; have P1 := Lib.hid h1; have P2 := Lib.hid h2; clear h1 h2))
  go_ret2
  exact ⟨rfl, P1.out, P2.out⟩
theorem store_hit (k : Nat) (v : Int) (hM : MemAt w m c d cs ws th ct) (hlt : k < cs.length) (hw : ws.getD k 0 ≠ 0) (hc0 : 0 ≤ ct) (hc1 : ct ≤ 1000000000000000) :
    Calls Tryd.prog 23 #[.pointer (some ⟨m, 0, none⟩), .int .u64 k, .int .u64 v] w fun e w' => e = .returned .nilIface ∧ MemAt w' m c d (cs.set k (cutF (ws.getD k 0) v)) ws th (ct + 1) ∧ Upto (fun b => b = m ∨ b = c) w w' := by
  have C := Lib.hid (access_hit m c d cs ws th ct w 1 k 0 v (by omega) hM hlt hw hc0 hc1)
  clear hM hlt hw
  unfold AccPost at *
  go_enter Tryd.func23, Tryd.ntmps23
  go_wp2_with (first | (go_at_call 43; refine C.out.mono ?_; rintro e w' ⟨rfl, h1, h2⟩; have P1 := Lib.hid h1; have P2 := Lib.hid h2; clear h1 h2))
  go_ret
  exact ⟨rfl, P1.out, P2.out⟩
end
end Go.Proofs.YtoncebfhkoabaaaDoor
