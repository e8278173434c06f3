/- Walk of VmRuns. -/
import Derived.Test.YtoncebfhkoabaaaDoorG1
namespace Go.Proofs.YtoncebfhkoabaaaDoor
open Go.RowKit Go.Extern.Stop Go.Stop Go.Extern

def runS (pc : Int) (regs back vals : List Int) : VmS := ⟨pc, loadR regs (min regs.length 32), back.take 8, laid vals (min vals.length 11), (min vals.length 11 : Nat)⟩
theorem runS_good (pc : Int) (regs back vals : List Int) (hr : ∀ i, Rng (regs.getD i 0)) (hv : ∀ i, Rng (vals.getD i 0)) : (runS pc regs back vals).Good := by
  refine ⟨loadR_length _ _, loadR_rng _ hr _, ?_, laid_length _ _, fun i => laid_rng _ hv _ i, by show (0 : Int) ≤ ((min vals.length 11 : Nat) : Int); omega, by show ((min vals.length 11 : Nat) : Int) ≤ _; omega⟩
  show (back.take 8).length ≤ 8
  rw [List.length_take]; omega
theorem VmS.Good.plus {s : VmS} (h : s.Good) (hc : s.ct + 11 ≤ 1000000000) : s.plus.Good := ⟨h.rl, h.rr, h.bl, h.cl, h.cr, by have := h.t0; show 0 ≤ s.ct + 11; omega, hc⟩

set_option maxHeartbeats 8000000 in
set_option maxRecDepth 100000 in
theorem vmRuns_walk (A : Option Addr) (ca : Nat) (l : List InsD) (pc : Int) (R : Option Addr) (cr : Nat) (regs : List Int) (K : Option Addr) (ck : Nat) (back : List Int) (V : Option Addr) (cv : Nat) (vals : List Int) (steps : Int) (w : World)
    (hl : (l.length : Int) ≤ 9223372036854775807) (hreg : (regs.length : Int) ≤ 9223372036854775807) (hbk : (back.length : Int) ≤ 9223372036854775807) (hval : (vals.length : Int) ≤ 9223372036854775807)
    (hA : InsSl w A l) (hR : U64Sl w R regs) (hK : BackIs w K back) (hV : U64Sl w V vals) (hvx : ∀ x ∈ l, Rng x.v) (hrr : ∀ i, Rng (regs.getD i 0)) (hvr : ∀ i, Rng (vals.getD i 0))
    (hs1 : -9223372036854775808 ≤ steps) (hs2 : steps < 9223372036854775808) (hgl : Gl w) :
    Calls Tryd.prog 3 #[.slice A l.length ca, .int .i64 pc, .slice R regs.length cr, .slice K back.length ck, .slice V vals.length cv, .int .i64 steps] w fun e w' => e = .returned (.bool true) ∧ Ext w w' := by
  have HA := Lib.hid hA
  have HR := Lib.hid hR
  have HK := Lib.hid hK
  have GL := Lib.hid hgl
  have HVX := Lib.hid hvx
  have CB := Lib.hid (both_any V cv vals hval w hV hvr)
  have SG := Lib.hid (runS_good pc regs back vals hrr hvr)
  obtain ⟨q, hq60, hqe⟩ : ∃ q : Nat, q < 60 ∧ steps % 60 = q := ⟨(steps % 60).toNat, by omega, by omega⟩
  have CW := Lib.hid (fun w => within_any steps 60 hs1 hs2 (by omega) (by omega) w)
  rw [hqe] at CW
  clear hqe
  clear hA hR hK hV hgl hvx hrr hvr hs1 hs2
  go_enter Tryd.func3, Tryd.ntmps3
  by_cases hbig : (l.length : Int) ≤ 2048
  · go_upto_region 3 with (first
      | (go_at_call 5; refine CB.out.mono ?_; rintro e w1 ⟨m, c, d, m2, c2, d2, rfl, hT, hx⟩; have T1 := Lib.hid hT; have X1 := Lib.hid hx; clear hT hx))
    obtain ⟨hP, hQ, b1, b2, b3, h4, h5, h6⟩ := T1.out
    have l1 := hQ.lm
    have l2 := hQ.lc
    have l3 := hQ.ld
    have SP := Lib.hid (show Spot w.heap.size w1.heap.size (w1.heap.size + 1) m c d m2 c2 d2 from ⟨b1, b2, b3, h4, h5, h6, l1, l2, l3, rfl⟩)
    clear hP hQ b1 b2 b3 h4 h5 h6
    refine (frame_back pc R cr regs K ck back hreg hbk w1 (HR.out.ext X1.out) (HK.out.ext X1.out)).mono ?_
    rintro e w2 ⟨f, g, rfl, hf, hg, hFB, hx2⟩
    rw [← hg, ← hf] at SP
    have FB := Lib.hid (hFB (MQ f g m c m2 c2) (fun q hq => by unfold MQ at hq; obtain ⟨b1, b2, b3, h4, h5, h6, l1, l2, l3, fg⟩ := SP.out; omega))
    have X2 := Lib.hid hx2
    have LF := Lib.hid hf
    clear hFB hx2 hf hg l1 l2 l3
    go_upto_block 0 with (first
      | (go_at_call 8; refine (copyCode_new A ca l (by omega) _ ((HA.out.ext X1.out).ext X2.out)).mono ?_; rintro e w3 ⟨B, cb, rfl, hB, hnew, hx3⟩; have IB := Lib.hid hB; have NB := Lib.hid hnew; have X3 := Lib.hid hx3; clear hB hnew hx3)
      | (go_at_call 9; refine (CW.out _).mono ?_; rintro e w4 ⟨rfl, rfl⟩))
    have AN := Lib.hid (show l ≠ [] → ∀ a, A = some a → ¬ MQ f g m c m2 c2 a.block from fun hn a ha hq => by
      obtain ⟨b, off, e, hi⟩ := HA.out hn
      rw [e] at ha; injection ha with ha; subst ha
      have h0 : 0 < l.length := List.length_pos_iff.2 hn
      have := World.block_lt_of_cell? _ _ (hi 0 h0).1
      obtain ⟨b1, b2, b3, h4, h5, h6, l1, l2, l3, fg⟩ := SP.out
      unfold MQ at hq
      simp only at hq this
      omega)
    have BN := Lib.hid (show ∀ a, B = some a → ¬ MQ f g m c m2 c2 a.block from fun a ha hq => by
      have h1 := NB.out a ha
      have h2 := FB.out.2.lt
      obtain ⟨b1, b2, b3, h4, h5, h6, l1, l2, l3, fg⟩ := SP.out
      unfold MQ at hq
      omega)
    have R0 := Lib.hid (show Run w f g m c d m2 c2 d2 A B l w3 (runS pc regs back vals) (runS pc regs back vals) from
      ⟨FB.out.1.ext X3.out, FB.out.2.ext X3.out, (T1.out.p.ext X2.out).ext X3.out, (T1.out.q.ext X2.out).ext X3.out, ((HA.out.ext X1.out).ext X2.out).ext X3.out, IB.out, (X1.out.trans (X2.out.mono X1.out.size)).trans (X3.out.mono (Nat.le_trans X1.out.size X2.out.size))⟩)
    clear FB T1 X1 X2 X3 IB NB LF HR HK CB CW
    go_cut [19] (fun _ wx => ∃ s, Run w f g m c d m2 c2 d2 A B l wx s s)
    case first =>
      go_wp2_with fail
      go_loopw [19] (fun i wr => ∃ (k : Nat) (s : VmS), k ≤ 1 + q ∧ i = .int .i64 k ∧ Run w f g m c d m2 c2 d2 A B l wr s s ∧ s.Good ∧ s.ct ≤ 11 + 12 * k) (fun i _ => 100 - (intOf i).toNat)
      case atStart => exact ⟨0, runS pc regs back vals, Nat.zero_le _, rfl, R0.out, SG.out, by show ((min vals.length 11 : Nat) : Int) ≤ _; omega⟩
      case round =>
        obtain ⟨k, s, hk, rfl, hrun, hgood, hct⟩ := hrel
        by_cases hlt : (k : Int) < 1 + (q : Int)
        · have hct1 : s.ct < 1000000000 := by omega
          have CV := run_v (cb := cb) SP.out AN.out BN.out hgood (by omega) HVX.out hrun
          have CR := fun W v hp h => run_r (ca := ca) (W := W) SP.out AN.out BN.out hgood (by omega) HVX.out v hp h
          have GS := vmStep_good HVX.out hgood hct1
          have CT := vmStep_ct l s
          have OK := vmStep_ok l s
          generalize vmStep l s = res at CV CR GS CT OK
          obtain ⟨how, s', an⟩ := res
          simp only at CV CR GS CT OK
          have HV := Lib.hid CV
          have HR := Lib.hid CR
          have HG := Lib.hid GS
          have HO := Lib.hid OK
          have HC := Lib.hid (show s'.ct ≤ 12 + 12 * k by omega)
          have HX := Lib.hid hrun.hx
          clear CV CR GS CT OK hrun hgood hct hct1 R0 SG
          by_cases h0 : how = 0
          · subst h0
            go_wp2_with (first
              | (go_at_call 10; refine HV.out.mono ?_; rintro e w5 ⟨v, rfl, hp, hrun⟩; have P5 := Lib.hid hp; have R5 := Lib.hid hrun; clear hp hrun)
              | (go_at_call 11; refine (HR.out _ v P5.out R5.out).mono ?_; rintro e w6 ⟨u, rfl, hf, hp, hrun⟩; have F6 := Lib.hid hf; have P6 := Lib.hid hp; have R6 := Lib.hid hrun; clear hf hp hrun)
              | (go_at_call 12; refine (same_match _ v u an P6.out F6.out HO.out (GL.out.ext R6.out.hx)).mono ?_; rintro e w7 ⟨rfl, hx⟩; have R7 := Lib.hid (R6.out.ext hx); clear hx)
              | (go_at_call 13; refine (run_a SP.out AN.out BN.out HG.out R7.out).mono ?_; rintro e w8 ⟨rfl, hrun⟩; have R8 := Lib.hid hrun; clear hrun))
            go_roundw
            case rel => exact ⟨k + 1, s'.plus, by omega, by go_num, R8.out, HG.out.plus (by have := HC.out; omega), by have := HC.out; show s'.ct + 11 ≤ _; omega⟩
            case measure => simp [intOf]; omega
          · have h0' : decide (how = 0) = false := decide_eq_false h0
            go_wp2_with (first
              | (go_at_call 10; refine HV.out.mono ?_; rintro e w5 ⟨v, rfl, hp, hrun⟩; have P5 := Lib.hid hp; have R5 := Lib.hid hrun; clear hp hrun)
              | (go_at_call 11; refine (HR.out _ v P5.out R5.out).mono ?_; rintro e w6 ⟨u, rfl, hf, hp, hrun⟩; have F6 := Lib.hid hf; have P6 := Lib.hid hp; have R6 := Lib.hid hrun; clear hf hp hrun)
              | (go_at_call 12; refine (same_match _ v u an P6.out F6.out HO.out (GL.out.ext R6.out.hx)).mono ?_; rintro e w7 ⟨rfl, hx⟩; have R7 := Lib.hid (R6.out.ext hx); clear hx)
              | (go_at_call 13; refine (run_a SP.out AN.out BN.out HG.out R7.out).mono ?_; rintro e w8 ⟨rfl, hrun⟩; have R8 := Lib.hid hrun; clear hrun))
            go_meet
            exact ⟨s'.plus, R8.out⟩
        · have RUN := Lib.hid hrun
          clear hrun
          go_wp2_with fail
          go_meet
          exact ⟨s, RUN.out⟩
    case rest =>
      obtain ⟨s, hrun⟩ := hcut
      have RUN := Lib.hid hrun
      clear hrun
      go_wp2_with (first
        | (go_at_call 14; refine (code_same B A cb ca l hl _ RUN.out.hB RUN.out.hA).mono ?_; rintro e w5 ⟨rfl, nq, rfl⟩)
        | (go_at_call 6; refine (vawake _).mono ?_; rintro e w6 ⟨rfl, hx⟩; have X6 := Lib.hid hx; clear hx))
      go_ret
      exact ⟨rfl, (RUN.out.hx.trans ((drewN_ext _ nq).mono RUN.out.hx.size)).trans (X6.out.mono RUN.out.hx.size)⟩
  · go_wp2_with (first
      | (go_at_call 5; refine CB.out.mono ?_; rintro e w1 ⟨m, c, d, m2, c2, d2, rfl, hT, hx⟩; have X1 := Lib.hid hx; clear hT hx)
      | (go_at_call 6; refine (vawake _).mono ?_; rintro e w2 ⟨rfl, hx⟩; have X2 := Lib.hid hx; clear hx))
    go_ret
    exact ⟨rfl, X1.out.trans (X2.out.mono X1.out.size)⟩
end Go.Proofs.YtoncebfhkoabaaaDoor
