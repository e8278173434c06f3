/- The document's Step in plain words: at any instruction, any frame, any cells. -/
import Derived.Test.YtoncebfhkoabaaaDoorS1
import Derived.Test.YtoncebfhkoabaaaDoorR3
import Derived.Test.YtoncebfhkoabaaaDoorC4b
import Derived.Test.YtoncebfhkoabaaaDoorR4
import Derived.Test.YtoncebfhkoabaaaDoorR6
namespace Go.Proofs.YtoncebfhkoabaaaDoor
open Go.RowKit Go.Extern.Stop Go.Stop Go.Extern

def RPost (M : Nat → Prop) (w : World) (b m c d : Nat) (res : Int × VmS × Ans) (e : Ending) (w' : World) : Prop :=
  ∃ v, e = .returned (.tuple #[.int .i64 res.1, v]) ∧ FailPost w' v res.2.2 ∧ FrB M w' b 0 res.2.1.pc res.2.1.r res.2.1.bk ∧ RMemAt w' m c d res.2.1.cs ws12 res.2.1.ct ∧ Upto (fun q => q = b ∨ q = m ∨ q = c) w w' ∧ (res.2.2 ≠ none → Ext w w')

section
variable {M : Nat → Prop} {w : World} {b m c d bc off ccap : Nat} {l : List InsD} {s : VmS}
theorem RPost.of_step (hL : Lay M w b m c d) (hM : RMemAt w m c d s.cs ws12 s.ct) {how pc : Int} {r bk : List Int} {e : Ending} {w' : World} (h : RStepPost M w b 0 how pc r bk e w') : RPost M w b m c d (how, { s with pc := pc, r := r, bk := bk }, none) e w' :=
  ⟨.pointer none, h.1, rfl, h.2.1, hM.upto h.2.2 hL.bm.symm hL.bc.symm hL.bd.symm, h.2.2.mono (by rintro k _ rfl; exact .inl rfl), fun h => absurd rfl h⟩

set_option maxHeartbeats 2000000 in
theorem rins_any (k : Nat) (x : InsD) (hL : Lay M w b m c d) (hG : s.Good) (hlen : l.length ≤ 2048) (hk : k < l.length) (hx : l[k] = x) (hs : s.pc = k) (hxv : Rng x.v) (hF : FrB M w b 0 s.pc s.r s.bk) (hI : InsAt w bc off l) (hM : RMemAt w m c d s.cs ws12 s.ct) :
    Calls Tryd.prog 11 #[.pointer (some ⟨b, 0, none⟩), .slice (some ⟨bc, off, none⟩) l.length ccap, .pointer (some ⟨m, 0, none⟩)] w (RPost M w b m c d (insStep x l.length s)) := by
  have hlen6 : l.length ≤ 1000000 := by omega
  have hF0 : FrB M w b 0 (k : Nat) s.r s.bk := by rw [← hs]; exact hF
  have hright : rightF ⟨x.op, x.a, x.b, x.c, x.v, 0, 0⟩ l.length (x.op != 22) = vmayF x l.length := by
    rw [← may_right]; exact vmay_bare x _
  unfold insStep
  by_cases hv : vmayF x l.length = false
  · rw [if_pos hv]
    refine (rstep_mayn M b 0 bc off ccap l s.r s.bk _ w k x.op x.a x.b x.c x.v x.m x.wh hF0 hI hlen6 hk hx (by rw [hright]; exact hv)).mono fun e w' h => ?_
    have := RPost.of_step hL hM h
    rw [← hs] at this; exact this
  rw [if_neg hv]
  have hv' : vmayF x l.length = true := by simpa using hv
  rw [hv'] at hright
  obtain ⟨hop1, hop2⟩ := vmay_op hv'
  have hvn : isJ x.op = true → 0 ≤ x.v ∧ x.v ≤ 1000000000000 := fun h => ⟨hxv.1, by have := vmay_v hv' h; omega⟩
  have hA : fA x.op = true → 0 ≤ x.a ∧ x.a < 32 := vmay_a hv'
  have hC : fC x.op = true → sNoC x.op = false → 0 ≤ x.c ∧ x.c < 32 := vmay_c hv'
  have hB : fB x.op = true → sNoB x.op = false → 0 ≤ x.b ∧ x.b < 32 := vmay_b hv'
  obtain ⟨op, xa, xb, xc, xv, xm, xw⟩ := x
  simp only at hright hop1 hop2 hvn hA hB hC hxv ⊢
  by_cases h12 : op = 12
  · subst h12
    rw [if_pos rfl]
    obtain ⟨v0, v1⟩ := hvn rfl
    exact (rstep_jmp M b 0 bc off ccap l s.r s.bk _ w k xa xb xc xv xm xw hF0 hI hlen6 hk hx hright v0 v1 hL.Mb).mono fun e w' h => RPost.of_step hL hM h
  rw [if_neg h12]
  by_cases h13 : op = 13 ∨ op = 14
  · rw [if_pos h13]
    rcases h13 with rfl | rfl
    · obtain ⟨v0, v1⟩ := hvn rfl
      obtain ⟨a0, a1⟩ := hA rfl
      refine (rstep_cond13 M b 0 bc off ccap l s.r s.bk _ w k xa xb xc xv xm xw hF0 hI hlen6 hk hx hright v0 v1 a0 a1 hL.Mb).mono fun e w' h => ?_
      have := RPost.of_step hL hM h
      rw [hs]; exact this
    · obtain ⟨v0, v1⟩ := hvn rfl
      obtain ⟨a0, a1⟩ := hA rfl
      refine (rstep_cond14 M b 0 bc off ccap l s.r s.bk _ w k xa xb xc xv xm xw hF0 hI hlen6 hk hx hright v0 v1 a0 a1 hL.Mb).mono fun e w' h => ?_
      have := RPost.of_step hL hM h
      rw [hs]; exact this
  rw [if_neg h13]
  by_cases h15 : op = 15
  · subst h15
    rw [if_pos rfl]
    obtain ⟨v0, v1⟩ := hvn rfl
    by_cases h8 : 8 ≤ s.bk.length
    · rw [if_pos h8]
      refine (rstep_full M b 0 bc off ccap l s.r s.bk _ w k xa xb xc xv xm xw hF0 hI hlen6 hk hx hright h8 (by have := hG.bl; omega)).mono fun e w' h => ?_
      have := RPost.of_step hL hM h
      rw [← hs] at this; exact this
    · rw [if_neg h8]
      refine (rstep_jsr M b 0 bc off ccap l s.r s.bk _ w k xa xb xc xv xm xw hF0 hI hlen6 hk hx hright (by omega) v0 v1 hL.lt).mono fun e w' h => ?_
      have := RPost.of_step hL hM h
      rw [hs]; exact this
  rw [if_neg h15]
  by_cases h16 : op = 16
  · subst h16
    rw [if_pos rfl]
    by_cases hb : s.bk = []
    · rw [if_pos hb]
      refine (rstep_home M b 0 bc off ccap l s.r s.bk _ w k xa xb xc xv xm xw hb hF0 hI hlen6 hk hx hright).mono fun e w' h => ?_
      have := RPost.of_step hL hM h
      rw [← hs] at this; exact this
    · rw [if_neg hb]
      obtain ⟨bk', u, hbk⟩ : ∃ bk' u, s.bk = bk' ++ [u] := ⟨s.bk.dropLast, s.bk.getLast hb, (List.dropLast_concat_getLast hb).symm⟩
      have e1 : s.bk.getD (s.bk.length - 1) 0 = u := by rw [hbk]; simp [List.getD_eq_getElem?_getD]
      have e2 : s.bk.take (s.bk.length - 1) = bk' := by rw [hbk]; simp
      refine (rstep_ret M b 0 bc off ccap l s.r s.bk _ w k bk' u xa xb xc xv xm xw hbk hF0 hI hlen6 hk hx hright (by have := hG.bl; rw [hbk] at this; simp at this; omega) hL.lt).mono fun e w' h => ?_
      have := RPost.of_step hL hM h
      rw [e1, e2]; exact this
  rw [if_neg h16]
  by_cases h11 : 1 ≤ op ∧ op ≤ 11
  · rw [if_pos h11]
    by_cases h1 : op = 1
    · subst h1
      obtain ⟨a0, a1⟩ := hA rfl
      refine (rstep_set M b 0 bc off ccap l s.r s.bk _ w k xa xb xc xv xm xw hF0 hI hlen6 hk hx hright a0 a1 hL.Mb).mono fun e w' h => ?_
      have := RPost.of_step hL hM h
      rw [hs]; exact this
    · by_cases h2 : op = 2
      · subst h2
        obtain ⟨a0, a1⟩ := hA rfl
        obtain ⟨b0, b1⟩ := hB rfl rfl
        refine (rstep_mov M b 0 bc off ccap l s.r s.bk _ w k xa xb xc xv xm xw hF0 hI hlen6 hk hx hright a0 a1 b0 b1 hL.Mb).mono fun e w' h => ?_
        have := RPost.of_step hL hM h
        have e1 : reckonF 2 xv (readF s.r xb) (valueF s.r ⟨2, xa, xb, xc, xv, xm, xw⟩) = s.r.getD xb.toNat 0 := by
          show readF s.r xb = _
          unfold readF; rw [if_pos ⟨b0, b1⟩]
        rw [hs, e1]; exact this
      · have h3 : op = 3 ∨ op = 4 ∨ op = 5 ∨ op = 6 ∨ op = 7 ∨ op = 8 ∨ op = 9 ∨ op = 10 ∨ op = 11 := by omega
        have hne : (op != 22) = true := by simp; omega
        obtain ⟨a0, a1⟩ := hA (by rcases h3 with rfl | rfl | rfl | rfl | rfl | rfl | rfl | rfl | rfl <;> rfl)
        obtain ⟨b0, b1⟩ := hB (by rcases h3 with rfl | rfl | rfl | rfl | rfl | rfl | rfl | rfl | rfl <;> rfl) (by rcases h3 with rfl | rfl | rfl | rfl | rfl | rfl | rfl | rfl | rfl <;> rfl)
        rw [hne] at hright
        refine (rstep_reckon M b 0 bc off ccap l s.r s.bk _ w k op xa xb xc xv xm xw hF0 hI hlen6 hk hx hright (by omega) a0 a1 b0 b1 hL.Mb).mono fun e w' h => ?_
        have := RPost.of_step hL hM h
        have e1 : readF s.r xb = s.r.getD xb.toNat 0 := by unfold readF; rw [if_pos ⟨b0, b1⟩]
        rw [hs, e1]; exact this
  rw [if_neg h11]
  by_cases h21 : 17 ≤ op ∧ op ≤ 21
  · rw [if_pos h21]
    have h5 : op = 17 ∨ op = 18 ∨ op = 19 ∨ op = 20 ∨ op = 21 := by omega
    obtain ⟨a0, a1⟩ := hA (by rcases h5 with h | h | h | h | h <;> rw [h] <;> rfl)
    have hat : Rng (s.at_ ⟨op, xa, xb, xc, xv, xm, xw⟩) := address_rng (r := s.r) hxv
    by_cases hw : widthF ws12 (s.at_ ⟨op, xa, xb, xc, xv, xm, xw⟩) = 0
    · rw [if_pos hw]
      have hmiss : Calls Tryd.prog 11 #[.pointer (some ⟨b, 0, none⟩), .slice (some ⟨bc, off, none⟩) l.length ccap, .pointer (some ⟨m, 0, none⟩)] w (RMissPost M w b 0 k (s.at_ ⟨op, xa, xb, xc, xv, xm, xw⟩) s.r s.bk) := by
        rcases h5 with rfl | rfl | rfl | rfl | rfl
        · exact rmiss_17 M b 0 bc off ccap l s.r s.bk w m c d s.cs ws12 s.ct k _ xa xb xc xv xm xw hF0 hI hlen6 hk hx hright hM a0 a1 hxv hat.1 hw rfl
        · exact rmiss_18 M b 0 bc off ccap l s.r s.bk w m c d s.cs ws12 s.ct k _ xa xb xc xv xm xw hF0 hI hlen6 hk hx hright hM a0 a1 hxv hat.1 hw rfl
        · exact rmiss_19 M b 0 bc off ccap l s.r s.bk w m c d s.cs ws12 s.ct k _ xa xb xc xv xm xw hF0 hI hlen6 hk hx hright hM a0 a1 hxv hat.1 hw rfl
        · exact rmiss_20 M b 0 bc off ccap l s.r s.bk w m c d s.cs ws12 s.ct k _ xa xb xc xv xm xw hF0 hI hlen6 hk hx hright hM a0 a1 hxv hat.1 hw rfl
        · obtain ⟨q0, q1⟩ := hC rfl rfl
          exact rmiss_21 M b 0 bc off ccap l s.r s.bk w m c d s.cs ws12 s.ct k _ xa xb xc xv xm xw hF0 hI hlen6 hk hx hright hM a0 a1 q0 q1 hxv hat.1 hw rfl
      refine hmiss.mono ?_
      rintro e w' ⟨v, he, hf, hF1, hX⟩
      exact ⟨v, he, by rw [hs]; exact hf, by rw [hs]; exact hF1, hM.ext hX, Upto.of_ext hX, fun _ => hX⟩
    · rw [if_neg hw]
      obtain ⟨w0, w1, w2⟩ := width_in hw
      have hkk : addressF s.r ⟨op, xa, xb, xc, xv, xm, xw⟩ = ((s.k ⟨op, xa, xb, xc, xv, xm, xw⟩ : Nat) : Int) := by
        show s.at_ _ = _
        unfold VmS.k; omega
      have hkl : s.k ⟨op, xa, xb, xc, xv, xm, xw⟩ < s.cs.length := by rw [hG.cl]; unfold VmS.k; omega
      have hne : ws12.getD (s.k ⟨op, xa, xb, xc, xv, xm, xw⟩) 0 ≠ 0 := w2
      have hcb : s.ct ≤ 1000000000000000 := by have := hG.t1; omega
      have hhit : Calls Tryd.prog 11 #[.pointer (some ⟨b, 0, none⟩), .slice (some ⟨bc, off, none⟩) l.length ccap, .pointer (some ⟨m, 0, none⟩)] w (RCellPost M w b 0 (k + 1) (s.r.set xa.toNat (s.res ⟨op, xa, xb, xc, xv, xm, xw⟩)) s.bk m c d (s.cs.set (s.k ⟨op, xa, xb, xc, xv, xm, xw⟩) (s.new ⟨op, xa, xb, xc, xv, xm, xw⟩)) ws12 (s.ct + 1)) := by
        rcases h5 with rfl | rfl | rfl | rfl | rfl
        · exact rcell_17 M b 0 bc off ccap l s.r s.bk w m c d s.cs ws12 s.ct k _ xa xb xc xv xm xw hF0 hI hlen6 hk hx hright hM a0 a1 hxv hG.rr hG.cr hkl hne hG.t0 hcb hkk hL.Mb hL.Mm hL.Mc hL.bm hL.bc hL.bd
        · exact rcell_18 M b 0 bc off ccap l s.r s.bk w m c d s.cs ws12 s.ct k _ xa xb xc xv xm xw hF0 hI hlen6 hk hx hright hM a0 a1 hxv hG.rr hG.cr hkl hne hG.t0 hcb hkk hL.Mb hL.Mm hL.Mc hL.bm hL.bc hL.bd
        · exact rcell_19 M b 0 bc off ccap l s.r s.bk w m c d s.cs ws12 s.ct k _ xa xb xc xv xm xw hF0 hI hlen6 hk hx hright hM a0 a1 hxv hG.rr hG.cr hkl hne hG.t0 hcb hkk hL.Mb hL.Mm hL.Mc hL.bm hL.bc hL.bd
        · exact rcell_20 M b 0 bc off ccap l s.r s.bk w m c d s.cs ws12 s.ct k _ xa xb xc xv xm xw hF0 hI hlen6 hk hx hright hM a0 a1 hxv hG.rr hG.cr hkl hne hG.t0 hcb hkk hL.Mb hL.Mm hL.Mc hL.bm hL.bc hL.bd
        · obtain ⟨q0, q1⟩ := hC rfl rfl
          exact rcell_21 M b 0 bc off ccap l s.r s.bk w m c d s.cs ws12 s.ct k _ xa xb xc xv xm xw hF0 hI hlen6 hk hx hright hM a0 a1 q0 q1 hxv hG.rr hG.cr hkl hne hG.t0 hcb hkk hL.Mb hL.Mm hL.Mc hL.bm hL.bc hL.bd
      refine hhit.mono ?_
      rintro e w' ⟨he, hf, hm, hu⟩
      exact ⟨_, he, rfl, by rw [hs]; exact hf, hm, hu, fun h => absurd rfl h⟩
  rw [if_neg h21]
  refine (rstep_away M b 0 bc off ccap l s.r s.bk _ w k op xa xb xc xv xm xw hF0 hI hlen6 hk hx hright (by omega)).mono fun e w' h => ?_
  have := RPost.of_step hL hM h
  rw [← hs] at this; exact this
end

/-! Both steps, wherever the frame stands. -/
section
variable {M : Nat → Prop} {w : World} {b m c d ccap : Nat} {A : Option Addr} {l : List InsD} {s : VmS}
theorem vstep_any (hL : Lay M w b m c d) (hG : s.Good) (hlen : l.length ≤ 2048) (hv : ∀ x ∈ l, Rng x.v) (hF : FrB M w b 0 s.pc s.r s.bk) (hI : InsSl w A l) (hM : MemAt w m c d s.cs ws12 11 s.ct) :
    Calls Tryd.prog 10 #[.pointer (some ⟨b, 0, none⟩), .slice A l.length ccap, .iface 25 (.pointer (some ⟨m, 0, none⟩))] w (VPost M w b m c d (vmStep l s)) := by
  by_cases hp : s.pc < 0 ∨ (l.length : Int) ≤ s.pc
  · rw [vmStep_out hp]
    exact (step_out M b 0 ccap l s.pc s.r s.bk _ w hF (by omega) hp A).mono fun e w' h => VPost.of_step hL hM h
  · obtain ⟨k, hk⟩ := Int.eq_ofNat_of_zero_le (show 0 ≤ s.pc by omega)
    have hkl : k < l.length := by omega
    obtain ⟨bc, off, rfl, hi⟩ := hI (by intro e; subst e; simp at hkl)
    rw [vmStep_in hkl hk]
    exact vins_any k l[k] hL hG hlen hkl rfl hk (hv _ (List.getElem_mem hkl)) hF hi hM
theorem rstep_any (hL : Lay M w b m c d) (hG : s.Good) (hlen : l.length ≤ 2048) (hv : ∀ x ∈ l, Rng x.v) (hF : FrB M w b 0 s.pc s.r s.bk) (hI : InsSl w A l) (hM : RMemAt w m c d s.cs ws12 s.ct) :
    Calls Tryd.prog 11 #[.pointer (some ⟨b, 0, none⟩), .slice A l.length ccap, .pointer (some ⟨m, 0, none⟩)] w (RPost M w b m c d (vmStep l s)) := by
  by_cases hp : s.pc < 0 ∨ (l.length : Int) ≤ s.pc
  · rw [vmStep_out hp]
    exact (rstep_out M b 0 ccap l s.r s.bk _ w s.pc hF (by omega) hp A).mono fun e w' h => RPost.of_step hL hM h
  · obtain ⟨k, hk⟩ := Int.eq_ofNat_of_zero_le (show 0 ≤ s.pc by omega)
    have hkl : k < l.length := by omega
    obtain ⟨bc, off, rfl, hi⟩ := hI (by intro e; subst e; simp at hkl)
    rw [vmStep_in hkl hk]
    exact rins_any k l[k] hL hG hlen hkl rfl hk (hv _ (List.getElem_mem hkl)) hF hi hM
end
end Go.Proofs.YtoncebfhkoabaaaDoor
