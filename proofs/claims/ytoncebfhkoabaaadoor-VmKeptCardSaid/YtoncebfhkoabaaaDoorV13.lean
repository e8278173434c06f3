/- Walk of the document's memory: Do. -/
import Derived.Test.YtoncebfhkoabaaaDoorV12
namespace Go.Proofs.YtoncebfhkoabaaaDoor
open Go.RowKit

def RAccPost (w : World) (m c d : Nat) (cs ws : List Int) (ct : Int) (k : Nat) (nw : Int) (e : Ending) (w' : World) : Prop :=
  e = .returned (.tuple #[.int .u64 (cs.getD k 0), .pointer none]) ∧ RMemAt w' m c d (cs.set k nw) ws (ct + 1) ∧ Upto (fun b => b = m ∨ b = c) w w'
section
variable (m c d : Nat) (cs ws : List Int) (ct : Int) (w : World)
set_option maxHeartbeats 4000000 in
set_option maxRecDepth 100000 in
theorem rdo_hit (kind : Int) (k : Nat) (old v : Int) (hk : kind = 0 ∨ kind = 1 ∨ kind = 2 ∨ kind = 3 ∨ kind = 4) (hM : RMemAt w m c d cs ws ct) (hlt : k < cs.length) (hw : ws.getD k 0 ≠ 0) (hc0 : 0 ≤ ct) (hc1 : ct ≤ 1000000000000000)
    (ho0 : 0 ≤ old) (ho1 : old < 18446744073709551616) (hv0 : 0 ≤ v) (hv1 : v < 18446744073709551616) (hh : 0 ≤ cs.getD k 0 ∧ cs.getD k 0 < 18446744073709551616) :
    Calls Tryd.prog 24 #[.pointer (some ⟨m, 0, none⟩), .int .i64 kind, .int .u64 k, .int .u64 old, .int .u64 v] w (RAccPost w m c d cs ws ct k (newF kind (ws.getD k 0) (cs.getD k 0) old v)) := by
  have hwf : widthF ws k = ws.getD k 0 := by unfold widthF; rw [if_pos ⟨by omega, by rw [hM.len]; omega⟩]; simp
  have hss := set_self cs k hlt
  have hne : (ws.getD k 0 == 0) = false := beq_eq_false_iff_ne.2 hw
  have H := Lib.hid hM
  have WF := Lib.hid hwf
  have SS := Lib.hid hss
  have p5 := hM.hct
  have p6 := hM.fm 2 (by omega)
  have hmc := hM.mc
  have hcm := hmc.symm
  have hbig := hM.big
  have p4 := hM.fc k hlt
  clear hM hwf hss hw
  obtain ⟨hh0, hh1⟩ := hh
  unfold RAccPost
  generalize hwd : ws.getD k 0 = wd at *
  have HWD := Lib.hid hwd
  clear hwd
  generalize hheld : cs.getD k 0 = held at *
  have HH := Lib.hid hheld
  clear hheld
  have q1 : (w.setCell ⟨m, 2, none⟩ (.int .i64 (ct + 1))).cell? ⟨m, 1, none⟩ = some (.slice (some ⟨c, 0, none⟩) cs.length cs.length) := (H.out.setCt (ct + 1)).pc
  have q3 : (w.setCell ⟨m, 2, none⟩ (.int .i64 (ct + 1))).cell? ⟨c, k, none⟩ = some (.int .u64 held) := by rw [(H.out.setCt (ct + 1)).hcs k hlt, HH.out]
  have q4 : (w.setCell ⟨m, 2, none⟩ (.int .i64 (ct + 1))).frozen? ⟨c, k, none⟩ = false := (H.out.setCt (ct + 1)).fc k hlt
  have hk2 : (k : Int) < (cs.length : Int) := by omega
  have hk0 : (0 : Int) ≤ (k : Int) := by omega
  generalize hnn : cs.length = n at *
  have HN := Lib.hid hnn
  clear hnn p4
  rcases hk with rfl | rfl | rfl | rfl | rfl
  · go_enter Tryd.func24, Tryd.ntmps24
    go_wp2_with (first | (go_at_call 44; refine (rwidth_any m c d cs ws ct _ _ (by omega) H.out).mono ?_; rintro e w' ⟨rfl, rfl⟩; rw [WF.out]))
    go_ret2
    refine ⟨rfl, ?_, (Upto.refl _ _).setM _ _⟩
    have e : newF 0 wd held old v = held := rfl
    rw [e, SS.out]
    exact H.out.setCt _
  · have e : newF 1 wd held old v = cutF wd v := rfl
    rw [e]
    clear e
    go_enter Tryd.func24, Tryd.ntmps24
    go_upto_region 11 with (first | (go_at_call 44; refine (rwidth_any m c d cs ws ct _ _ (by omega) H.out).mono ?_; rintro e w' ⟨rfl, rfl⟩; rw [WF.out]))
    go_region_held3 (fun w' => w'.cell? ⟨m, 1, none⟩ = some (.slice (some ⟨c, 0, none⟩) n n))
      (first | go_keep | (rw [World.cell?_setCell_far _ _ _ _ (by simpa using hcm)]; assumption))
      (first | (go_at_call 45; refine (rcut_any _ v hv0 hv1 _).mono ?_; rintro e w' ⟨rfl, rfl⟩))
    go_wp2_with fail
    go_ret2
    refine ⟨rfl, ?_, ((Upto.refl _ _).setM _ _).drew.setK _ _⟩
    exact (((H.out.setCt _).ext (Below.refl _ _).drew).setC k (by rw [HN.out]; omega) _)
  · have e : newF 2 wd held old v = cutF wd v := rfl
    rw [e]
    clear e
    go_enter Tryd.func24, Tryd.ntmps24
    go_upto_region 11 with (first | (go_at_call 44; refine (rwidth_any m c d cs ws ct _ _ (by omega) H.out).mono ?_; rintro e w' ⟨rfl, rfl⟩; rw [WF.out]))
    go_region_held3 (fun w' => w'.cell? ⟨m, 1, none⟩ = some (.slice (some ⟨c, 0, none⟩) n n))
      (first | go_keep | (rw [World.cell?_setCell_far _ _ _ _ (by simpa using hcm)]; assumption))
      (first | (go_at_call 45; refine (rcut_any _ v hv0 hv1 _).mono ?_; rintro e w' ⟨rfl, rfl⟩))
    go_wp2_with fail
    go_ret2
    refine ⟨rfl, ?_, ((Upto.refl _ _).setM _ _).drew.setK _ _⟩
    exact (((H.out.setCt _).ext (Below.refl _ _).drew).setC k (by rw [HN.out]; omega) _)
  · have e : newF 3 wd held old v = sumF wd held v := rfl
    rw [e]
    clear e
    go_enter Tryd.func24, Tryd.ntmps24
    go_upto_region 13 with (first | (go_at_call 44; refine (rwidth_any m c d cs ws ct _ _ (by omega) H.out).mono ?_; rintro e w' ⟨rfl, rfl⟩; rw [WF.out]))
    go_region_held3 (fun w' => w'.cell? ⟨m, 1, none⟩ = some (.slice (some ⟨c, 0, none⟩) n n))
      (first | go_keep | (rw [World.cell?_setCell_far _ _ _ _ (by simpa using hcm)]; assumption))
      (first | (go_at_call 46; refine (rsum_any _ held v hh0 hh1 hv0 hv1 _).mono ?_; rintro e w' ⟨rfl, rfl⟩))
    go_wp2_with fail
    go_ret2
    refine ⟨rfl, ?_, ((Upto.refl _ _).setM _ _).drew.setK _ _⟩
    exact (((H.out.setCt _).ext (Below.refl _ _).drew).setC k (by rw [HN.out]; omega) _)
  · by_cases hold : held = cutF wd old
    · have e : newF 4 wd held old v = cutF wd v := by show (if held = cutF wd old then cutF wd v else held) = _; rw [if_pos hold]
      rw [e]
      clear e
      have HO := Lib.hid (show (held == cutF wd old) = true by simp [hold])
      clear hold
      go_enter Tryd.func24, Tryd.ntmps24
      go_upto_region 16 with (first | (go_at_call 44; refine (rwidth_any m c d cs ws ct _ _ (by omega) H.out).mono ?_; rintro e w' ⟨rfl, rfl⟩; rw [WF.out]) | (go_at_call 45; ((with_reducible refine (rcut_any _ old ho0 ho1 _).mono ?_); rintro e w' ⟨rfl, rfl⟩; have ho := HO.out)))
      go_region_held3 (fun w' => w'.cell? ⟨m, 1, none⟩ = some (.slice (some ⟨c, 0, none⟩) n n))
        (first | go_keep | (rw [World.cell?_setCell_far _ _ _ _ (by simpa using hcm)]; assumption))
        (first | (go_at_call 45; refine (rcut_any _ v hv0 hv1 _).mono ?_; rintro e w' ⟨rfl, rfl⟩))
      go_wp2_with fail
      go_ret2
      refine ⟨rfl, ?_, ((Upto.refl _ _).setM _ _).drew.setK _ _⟩
      exact (((H.out.setCt _).ext (Below.refl _ _).drew).setC k (by rw [HN.out]; omega) _)
    · have e : newF 4 wd held old v = held := by show (if held = cutF wd old then cutF wd v else held) = _; rw [if_neg hold]
      rw [e, SS.out]
      clear e
      have HO := Lib.hid (show (held == cutF wd old) = false by simpa using hold)
      clear hold
      go_enter Tryd.func24, Tryd.ntmps24
      go_wp2_with (first | (go_at_call 44; refine (rwidth_any m c d cs ws ct _ _ (by omega) H.out).mono ?_; rintro e w' ⟨rfl, rfl⟩; rw [WF.out]) | (go_at_call 45; ((with_reducible refine (rcut_any _ old ho0 ho1 _).mono ?_); rintro e w' ⟨rfl, rfl⟩; have ho := HO.out)))
      go_ret2
      exact ⟨rfl, H.out.setCt _, (Upto.refl _ _).setM _ _⟩
end
end Go.Proofs.YtoncebfhkoabaaaDoor
