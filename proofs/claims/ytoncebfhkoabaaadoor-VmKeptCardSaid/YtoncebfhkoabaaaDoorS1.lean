import Derived.Test.YtoncebfhkoabaaaDoorN2
import Derived.Test.YtoncebfhkoabaaaDoorC5b
import Derived.Test.YtoncebfhkoabaaaDoorP1
/- One step of the vm in plain words; what it keeps. -/
namespace Go.Proofs.YtoncebfhkoabaaaDoor
open Go.RowKit Go.Extern.Stop Go.Stop Go.Extern

/-- A frame's and a memory's contents. -/
structure VmS where
  pc : Int
  r : List Int
  bk : List Int
  cs : List Int
  ct : Int
structure VmS.Good (s : VmS) : Prop where
  rl : s.r.length = 32
  rr : ∀ i, Rng (s.r.getD i 0)
  bl : s.bk.length ≤ 8
  cl : s.cs.length = 12
  cr : ∀ i, Rng (s.cs.getD i 0)
  t0 : 0 ≤ s.ct
  t1 : s.ct ≤ 1000000000

/-- The cell that an access comes to. -/
def VmS.at_ (s : VmS) (x : InsD) : Int := addressF s.r x
def VmS.k (s : VmS) (x : InsD) : Nat := (s.at_ x).toNat
/-- What A's register is behind an access. -/
def VmS.res (s : VmS) (x : InsD) : Int := if x.op = 18 then s.r.getD x.a.toNat 0 else s.cs.getD (s.k x) 0
/-- What the cell is behind an access. -/
def VmS.new (s : VmS) (x : InsD) : Int := newF (kindOf x.op) (ws12.getD (s.k x) 0) (s.cs.getD (s.k x) 0) (s.r.getD x.a.toNat 0) (if x.op = 21 then s.r.getD x.c.toNat 0 else s.r.getD x.a.toNat 0)
def insStep (x : InsD) (n : Int) (s : VmS) : Int × VmS × Ans :=
  if vmayF x n = false then (3, s, none)
  else if x.op = 12 then (0, { s with pc := x.v }, none)
  else if x.op = 13 ∨ x.op = 14 then (0, { s with pc := if jumps x.op (s.r.getD x.a.toNat 0) then x.v else s.pc + 1 }, none)
  else if x.op = 15 then (if 8 ≤ s.bk.length then (3, s, none) else (0, { s with pc := x.v, bk := s.bk ++ [s.pc + 1] }, none))
  else if x.op = 16 then (if s.bk = [] then (2, s, none) else (0, { s with pc := s.bk.getD (s.bk.length - 1) 0, bk := s.bk.take (s.bk.length - 1) }, none))
  else if 1 ≤ x.op ∧ x.op ≤ 11 then (0, { s with pc := s.pc + 1, r := s.r.set x.a.toNat (reckonF x.op x.v (readF s.r x.b) (valueF s.r x)) }, none)
  else if 17 ≤ x.op ∧ x.op ≤ 21 then
    (if widthF ws12 (s.at_ x) = 0 then (3, s, some ([(vmS, s.pc), (memS, missN (s.at_ x))], 2))
     else (0, { s with pc := s.pc + 1, r := s.r.set x.a.toNat (s.res x), cs := s.cs.set (s.k x) (s.new x), ct := s.ct + 1 }, none))
  else (1, s, none)
def vmStep (l : List InsD) (s : VmS) : Int × VmS × Ans :=
  if s.pc < 0 then (3, s, none) else match l[s.pc.toNat]? with
    | none => (3, s, none)
    | some x => insStep x l.length s
theorem vmStep_out {l : List InsD} {s : VmS} (h : s.pc < 0 ∨ (l.length : Int) ≤ s.pc) : vmStep l s = (3, s, none) := by
  unfold vmStep
  rcases h with h | h
  · rw [if_pos h]
  · split
    · rfl
    · rw [List.getElem?_eq_none (by omega)]
theorem vmStep_in {l : List InsD} {s : VmS} {k : Nat} (hk : k < l.length) (hs : s.pc = k) : vmStep l s = insStep l[k] l.length s := by
  unfold vmStep
  rw [if_neg (by omega), hs, show ((k : Int).toNat) = k by omega, List.getElem?_eq_getElem hk]

theorem wrap_rng (v : Int) : Rng (IntKind.u64.wrap v) := wrap_range v
theorem flag_rng (p : Bool) : Rng (flagF p) := by cases p <;> (unfold flagF Rng; simp)
theorem reckon_rng (op : Int) {v b c : Int} (hv : Rng v) (hb : Rng b) : Rng (reckonF op v b c) := by
  unfold reckonF
  split
  · exact hv
  split
  · exact wrap_rng _
  split
  · exact wrap_rng _
  split
  · exact wrap_rng _
  split
  · exact wrap_rng _
  split
  · exact wrap_rng _
  split
  · exact wrap_rng _
  split
  · refine ⟨Int.ediv_nonneg hb.1 (Int.pow_nonneg (by omega)), Int.lt_of_le_of_lt (Int.ediv_le_self _ hb.1) hb.2⟩
  split
  · exact flag_rng _
  split
  · exact flag_rng _
  · exact hb
theorem read_rng {r : List Int} (h : ∀ i, Rng (r.getD i 0)) (n : Int) : Rng (readF r n) := by
  unfold readF
  split
  · exact h _
  · unfold Rng; omega
theorem value_rng {r : List Int} (h : ∀ i, Rng (r.getD i 0)) {x : InsD} (hx : Rng x.v) : Rng (valueF r x) := by
  unfold valueF
  split
  · exact hx
  · exact read_rng h _
theorem address_rng {r : List Int} {x : InsD} (hx : Rng x.v) : Rng (addressF r x) := by
  unfold addressF
  split
  · exact hx
  · exact wrap_rng _
theorem set_rng {l : List Int} (h : ∀ i, Rng (l.getD i 0)) (k : Nat) {v : Int} (hv : Rng v) (i : Nat) : Rng ((l.set k v).getD i 0) := by
  by_cases hk : k < l.length
  · rw [getD_set _ _ _ _ hk]
    split
    · exact hv
    · exact h i
  · rw [List.set_eq_of_length_le (by omega)]; exact h i
theorem cut_rng (wd : Int) {v : Int} (hv : Rng v) : Rng (cutF wd v) := cutF_range wd v hv.1 hv.2
theorem new_rng (kind wd : Int) {h o v : Int} (hh : Rng h) (hv : Rng v) : Rng (newF kind wd h o v) := by
  unfold newF
  split
  · exact sumF_range _ _ _
  split
  · split
    · exact cut_rng _ hv
    · exact hh
  split
  · exact hh
  · exact cut_rng _ hv

theorem VmS.Good.step {x : InsD} {n : Int} {s : VmS} (h : s.Good) (hx : Rng x.v) : (insStep x n s).2.1.Good ∨ 1000000000 ≤ s.ct := by
  by_cases hct : 1000000000 ≤ s.ct
  · exact .inr hct
  refine .inl ?_
  unfold insStep
  split
  · exact h
  split
  · exact ⟨h.rl, h.rr, h.bl, h.cl, h.cr, h.t0, h.t1⟩
  split
  · exact ⟨h.rl, h.rr, h.bl, h.cl, h.cr, h.t0, h.t1⟩
  split
  · split
    · exact h
    · exact ⟨h.rl, h.rr, by simp; omega, h.cl, h.cr, h.t0, h.t1⟩
  split
  · split
    · exact h
    · exact ⟨h.rl, h.rr, by have := h.bl; simp; omega, h.cl, h.cr, h.t0, h.t1⟩
  split
  · exact ⟨by simpa using h.rl, set_rng h.rr _ (reckon_rng _ hx (read_rng h.rr _)), h.bl, h.cl, h.cr, h.t0, h.t1⟩
  split
  · split
    · exact h
    · refine ⟨by simpa using h.rl, set_rng h.rr _ ?_, h.bl, by simpa using h.cl, set_rng h.cr _ ?_, ?_, ?_⟩
      · unfold VmS.res
        split
        · exact h.rr _
        · exact h.cr _
      · unfold VmS.new
        refine new_rng _ _ (h.cr _) ?_
        split
        · exact h.rr _
        · exact h.rr _
      · have := h.t0; show 0 ≤ s.ct + 1; omega
      · show s.ct + 1 ≤ _; omega
  · exact h
theorem insStep_ct (x : InsD) (n : Int) (s : VmS) : (insStep x n s).2.1.ct = s.ct ∨ (insStep x n s).2.1.ct = s.ct + 1 := by
  unfold insStep
  repeat' (first | exact .inl rfl | exact .inr rfl | split)
theorem vmay_a {x : InsD} {n : Int} (h : vmayF x n = true) (hf : fA x.op = true) : 0 ≤ x.a ∧ x.a < 32 := by
  unfold vmayF mayF okF regF at h
  simp only [Bool.and_eq_true] at h
  have h1 := h.2.1.2.1.1.1
  simp only [bare] at h1
  rw [hf] at h1
  simp only [Bool.true_and, Bool.and_false, Bool.false_and, Bool.or_false, Bool.not_true, Bool.and_eq_true] at h1
  exact ⟨of_decide_eq_true h1.1, of_decide_eq_true h1.2⟩
theorem vmay_c {x : InsD} {n : Int} (h : vmayF x n = true) (hf : fC x.op = true) (hn : sNoC x.op = false) : 0 ≤ x.c ∧ x.c < 32 := by
  unfold vmayF mayF okF regF at h
  simp only [Bool.and_eq_true] at h
  have h1 := h.2.1.2.1.2
  simp only [bare] at h1
  rw [hf, hn] at h1
  simp only [Bool.true_and, Bool.and_false, Bool.false_and, Bool.or_false, Bool.not_true, Bool.and_eq_true] at h1
  exact ⟨of_decide_eq_true h1.1, of_decide_eq_true h1.2⟩
theorem vmay_b {x : InsD} {n : Int} (h : vmayF x n = true) (hf : fB x.op = true) (hn : sNoB x.op = false) : 0 ≤ x.b ∧ x.b < 32 := by
  unfold vmayF mayF okF regF at h
  simp only [Bool.and_eq_true] at h
  have h1 := h.2.1.2.1.1.2
  simp only [bare] at h1
  rw [hf, hn] at h1
  simp only [Bool.true_and, Bool.and_false, Bool.false_and, Bool.or_false, Bool.not_true, Bool.and_eq_true] at h1
  exact ⟨of_decide_eq_true h1.1, of_decide_eq_true h1.2⟩
theorem vmay_v {x : InsD} {n : Int} (h : vmayF x n = true) (hf : isJ x.op = true) : x.v < n := by
  unfold vmayF at h
  simp only [Bool.and_eq_true, hf, Bool.not_true, Bool.false_or, decide_eq_true_eq] at h
  exact h.1
theorem vmay_op {x : InsD} {n : Int} (h : vmayF x n = true) : 1 ≤ x.op ∧ x.op ≤ 58 := by
  unfold vmayF mayF okOp at h
  simp only [Bool.and_eq_true, decide_eq_true_eq] at h
  exact ⟨h.2.1.1.1.1.1, h.2.1.1.1.1.2⟩
/-- The document asks of an instruction in its place what the code asks of it alone. -/
def bareM (x : InsD) : InsD := ⟨x.op, x.a, x.b, x.c, x.v, 0, 0⟩
theorem vmay_bare (x : InsD) (n : Int) : mayF (bareM x) n (x.op != 22) = vmayF x n := by
  unfold vmayF mayF
  have e1 : okOp (bareM x) (x.op != 22) = okOp (bare x) (x.op != 22) := rfl
  have e2 : okM (bareM x) = okM (bare x) := rfl
  rw [e1, e2]
  have e3 : okF (bareM x) n = ((!isJ x.op || decide (x.v < n)) && okF (bare x) 1) := by
    unfold okF
    have f1 : (bareM x).a = (bare x).a := rfl
    have f2 : (bareM x).b = (bare x).b := rfl
    have f3 : (bareM x).c = (bare x).c := rfl
    have f4 : (bareM x).op = (bare x).op := rfl
    rw [f1, f2, f3, f4]
    have e4 : numF (bareM x) (fV (bare x).op) n = ((!isJ x.op || decide (x.v < n)) && numF (bare x) (fV (bare x).op) 1) := by
      by_cases hj : isJ x.op = true
      · have h : x.op = 12 ∨ x.op = 13 ∨ x.op = 14 ∨ x.op = 15 := by
          unfold isJ at hj; simp only [Bool.or_eq_true, beq_iff_eq] at hj; omega
        have e5 : numF (bare x) (fV (bare x).op) 1 = true := by
          unfold numF; rw [if_pos (show (bare x).op = 12 ∨ (bare x).op = 13 ∨ (bare x).op = 14 ∨ (bare x).op = 15 from h)]; simp [bare, hj]
        have e6 : numF (bareM x) (fV (bare x).op) n = decide (x.v < n) := by
          unfold numF; rw [if_pos (show (bareM x).op = 12 ∨ (bareM x).op = 13 ∨ (bareM x).op = 14 ∨ (bareM x).op = 15 from h)]; rfl
        rw [e5, e6, hj]; simp
      · have hj' : isJ x.op = false := by simpa using hj
        have h : ¬ (x.op = 12 ∨ x.op = 13 ∨ x.op = 14 ∨ x.op = 15) := by
          intro h; apply hj; unfold isJ; simp only [Bool.or_eq_true, beq_iff_eq]; omega
        rw [hj']
        have ev : (bare x).v = x.v := by simp [bare, hj']
        unfold numF
        rw [if_neg (show ¬ ((bareM x).op = 12 ∨ (bareM x).op = 13 ∨ (bareM x).op = 14 ∨ (bareM x).op = 15) from h), if_neg (show ¬ ((bare x).op = 12 ∨ (bare x).op = 13 ∨ (bare x).op = 14 ∨ (bare x).op = 15) from h), ev]
        rfl
    rw [e4]
    cases (!isJ x.op || decide (x.v < n)) <;> simp
  rw [e3]
  cases (!isJ x.op || decide (x.v < n)) <;> simp
end Go.Proofs.YtoncebfhkoabaaaDoor

/- vm.Step in plain words: at any instruction, any frame, any cells. -/
namespace Go.Proofs.YtoncebfhkoabaaaDoor
open Go.RowKit Go.Extern.Stop Go.Stop Go.Extern

/-- Where a frame and a memory lie; what may be written over is M. -/
structure Lay (M : Nat → Prop) (w : World) (b m c d : Nat) : Prop where
  Mb : M b
  Mm : M m
  Mc : M c
  bm : b ≠ m
  bc : b ≠ c
  bd : b ≠ d
  lt : ∀ k, M k → k < w.heap.size
def VPost (M : Nat → Prop) (w : World) (b m c d : Nat) (res : Int × VmS × Ans) (e : Ending) (w' : World) : Prop :=
  ∃ v, e = .returned (.tuple #[.int .i64 res.1, v]) ∧ ErrPost w' v res.2.2 ∧ FrB M w' b 0 res.2.1.pc res.2.1.r res.2.1.bk ∧ MemAt w' m c d res.2.1.cs ws12 11 res.2.1.ct ∧ Upto (fun q => q = b ∨ q = m ∨ q = c) w w'
theorem newF_old {kind wd h o o' v : Int} (hk : kind ≠ 4) : newF kind wd h o v = newF kind wd h o' v := by
  unfold newF; simp [hk]
theorem width_in {a : Int} (h : ¬ widthF ws12 a = 0) : 0 ≤ a ∧ a < 12 ∧ ws12.getD a.toNat 0 ≠ 0 := by
  unfold widthF at h
  by_cases hc : 0 ≤ a ∧ a < (ws12.length : Int)
  · rw [if_pos hc] at h; exact ⟨hc.1, hc.2, h⟩
  · rw [if_neg hc] at h; exact absurd rfl h

section
variable {M : Nat → Prop} {w : World} {b m c d bc off ccap : Nat} {l : List InsD} {s : VmS}
theorem VPost.of_step (hL : Lay M w b m c d) (hM : MemAt w m c d s.cs ws12 11 s.ct) {how pc : Int} {r bk : List Int} {e : Ending} {w' : World} (h : StepPost M w b 0 how pc r bk e w') : VPost M w b m c d (how, { s with pc := pc, r := r, bk := bk }, none) e w' :=
  ⟨.nilIface, h.1, rfl, h.2.1, hM.upto h.2.2 hL.bm.symm hL.bc.symm hL.bd.symm, h.2.2.mono (by rintro k _ rfl; exact .inl rfl)⟩

set_option maxHeartbeats 2000000 in
theorem vins_any (k : Nat) (x : InsD) (hL : Lay M w b m c d) (hG : s.Good) (hlen : l.length ≤ 2048) (hk : k < l.length) (hx : l[k] = x) (hs : s.pc = k) (hxv : Rng x.v) (hF : FrB M w b 0 s.pc s.r s.bk) (hI : InsAt w bc off l) (hM : MemAt w m c d s.cs ws12 11 s.ct) :
    Calls Tryd.prog 10 #[.pointer (some ⟨b, 0, none⟩), .slice (some ⟨bc, off, none⟩) l.length ccap, .iface 25 (.pointer (some ⟨m, 0, none⟩))] w (VPost M w b m c d (insStep x l.length s)) := by
  have hlen6 : l.length ≤ 1000000 := by omega
  have hF0 : FrB M w b 0 (k : Nat) s.r s.bk := by rw [← hs]; exact hF
  unfold insStep
  by_cases hv : vmayF x l.length = false
  · rw [if_pos hv]
    refine (step_mayn M b 0 bc off ccap l s.r s.bk _ w k x hF0 hI hlen6 hk hx hv).mono fun e w' h => ?_
    have := VPost.of_step hL hM h
    rw [← hs] at this; exact this
  rw [if_neg hv]
  have hv' : vmayF x l.length = true := by simpa using hv
  obtain ⟨hop1, hop2⟩ := vmay_op hv'
  have hjb : ∀ (how pc' : Int) (r' bk' : List Int), (x.op = 12 ∨ x.op = 13 ∨ x.op = 14 ∨ x.op = 15 ∨ x.op = 16) →
      (∀ W, Ext w W → Calls Tryd.prog 27 #[.pointer (some ⟨b, 0, none⟩), insA x.op x.a x.b x.c x.v x.m x.wh] W fun e w' => e = .returned (.int .i64 how) ∧ FrB M w' b 0 pc' r' bk' ∧ Upto (· = b) W w') →
      Calls Tryd.prog 10 #[.pointer (some ⟨b, 0, none⟩), .slice (some ⟨bc, off, none⟩) l.length ccap, .iface 25 (.pointer (some ⟨m, 0, none⟩))] w (VPost M w b m c d (how, { s with pc := pc', r := r', bk := bk' }, none)) := by
    intro how pc' r' bk' hop hj
    exact (step_jump M b 0 bc off ccap l s.r s.bk _ w k x.op x.a x.b x.c x.v x.m x.wh hF0 hI hlen6 hk hx hv' hop how pc' r' bk' hj).mono fun e w' h => VPost.of_step hL hM h
  have hvn : isJ x.op = true → 0 ≤ x.v ∧ x.v ≤ 1000000000000 := fun h => ⟨hxv.1, by have := vmay_v hv' h; omega⟩
  by_cases h12 : x.op = 12
  · rw [if_pos h12]
    obtain ⟨v0, v1⟩ := hvn (by simp [isJ, h12])
    have := hjb 0 x.v s.r s.bk (.inl h12) (fun W hX => by
      rw [h12]; exact jumpB_jmp M b 0 k s.r s.bk x.a x.b x.c x.v x.m x.wh W (hF0.ext hX) hL.Mb v0 v1)
    exact this
  rw [if_neg h12]
  by_cases h13 : x.op = 13 ∨ x.op = 14
  · rw [if_pos h13]
    obtain ⟨v0, v1⟩ := hvn (by rcases h13 with h | h <;> simp [isJ, h])
    obtain ⟨a0, a1⟩ := vmay_a hv' (by rcases h13 with h | h <;> rw [h] <;> rfl)
    have := hjb 0 (if jumps x.op (s.r.getD x.a.toNat 0) then x.v else k + 1) s.r s.bk (by omega) (fun W hX =>
      jumpB_cond M b 0 k s.r s.bk x.a x.b x.c x.v x.m x.wh W x.op h13 (hF0.ext hX) hL.Mb v0 v1 (by omega) (by omega) a0 a1)
    rw [hs]; exact this
  rw [if_neg h13]
  by_cases h15 : x.op = 15
  · rw [if_pos h15]
    obtain ⟨v0, v1⟩ := hvn (by simp [isJ, h15])
    by_cases h8 : 8 ≤ s.bk.length
    · rw [if_pos h8]
      have := hjb 3 k s.r s.bk (by omega) (fun W hX => by
        rw [h15]; exact jumpB_full M b 0 k s.r s.bk x.a x.b x.c x.v x.m x.wh W (hF0.ext hX) h8 (by have := hG.bl; omega))
      rw [← hs] at this; exact this
    · rw [if_neg h8]
      have := hjb 0 x.v s.r (s.bk ++ [(k : Int) + 1]) (by omega) (fun W hX => by
        rw [h15]; exact jumpB_jsr M b 0 k s.r s.bk x.a x.b x.c x.v x.m x.wh W (fun q hq => Nat.lt_of_lt_of_le (hL.lt q hq) hX.size) (hF0.ext hX) v0 v1 (by omega) (by omega) (by omega))
      rw [hs]; exact this
  rw [if_neg h15]
  by_cases h16 : x.op = 16
  · rw [if_pos h16]
    by_cases hb : s.bk = []
    · rw [if_pos hb]
      have := hjb 2 k s.r s.bk (by omega) (fun W hX => by
        have hF1 := hF0.ext hX
        rw [h16]
        rw [hb] at hF1 ⊢
        exact jumpB_home M b 0 k s.r x.a x.b x.c x.v x.m x.wh W hF1)
      rw [← hs] at this; exact this
    · rw [if_neg hb]
      obtain ⟨bk', u, hbk⟩ : ∃ bk' u, s.bk = bk' ++ [u] := ⟨s.bk.dropLast, s.bk.getLast hb, (List.dropLast_concat_getLast hb).symm⟩
      have e1 : s.bk.getD (s.bk.length - 1) 0 = u := by rw [hbk]; simp [List.getD_eq_getElem?_getD]
      have e2 : s.bk.take (s.bk.length - 1) = bk' := by rw [hbk]; simp
      have := hjb 0 u s.r bk' (by omega) (fun W hX => by
        have hF1 := hF0.ext hX
        rw [h16]
        rw [hbk] at hF1
        exact jumpB_ret M b 0 k s.r bk' x.a x.b x.c x.v x.m x.wh W u hL.Mb hF1 (by have := hG.bl; rw [hbk] at this; simp at this; omega))
      rw [e1, e2]; exact this
  rw [if_neg h16]
  by_cases h11 : 1 ≤ x.op ∧ x.op ≤ 11
  · rw [if_pos h11]
    obtain ⟨a0, a1⟩ := vmay_a hv' (by
      have : x.op = 1 ∨ x.op = 2 ∨ x.op = 3 ∨ x.op = 4 ∨ x.op = 5 ∨ x.op = 6 ∨ x.op = 7 ∨ x.op = 8 ∨ x.op = 9 ∨ x.op = 10 ∨ x.op = 11 := by omega
      rcases this with h | h | h | h | h | h | h | h | h | h | h <;> rw [h] <;> rfl)
    refine (step_reckon M b 0 bc off ccap l s.r s.bk _ w k x.op x.a x.b x.c x.v x.m x.wh hF0 hI hlen6 hk hx hv' h11 a0 a1 hL.Mb).mono fun e w' h => ?_
    have := VPost.of_step hL hM h
    rw [hs]; exact this
  rw [if_neg h11]
  by_cases h21 : 17 ≤ x.op ∧ x.op ≤ 21
  · rw [if_pos h21]
    have h5 : x.op = 17 ∨ x.op = 18 ∨ x.op = 19 ∨ x.op = 20 ∨ x.op = 21 := by omega
    obtain ⟨a0, a1⟩ := vmay_a hv' (by rcases h5 with h | h | h | h | h <;> rw [h] <;> rfl)
    have hc : x.op = 21 → 0 ≤ x.c ∧ x.c < 32 := fun h => vmay_c hv' (by rw [h]; rfl) (by rw [h]; rfl)
    have hat := address_rng (r := s.r) hxv
    have hFk := hF0
    obtain ⟨A2, cap, hFr, _, _, _⟩ := hFk
    by_cases hw : widthF ws12 (s.at_ x) = 0
    · rw [if_pos hw]
      refine (step_miss M b 0 bc off ccap l s.r s.bk w m k x.op x.a x.b x.c x.v x.m x.wh (s.at_ x) hF0 hI hlen6 hk hx hv' h5 (fun W hX => ?_)).mono ?_
      · obtain ⟨op, xa, xb, xc, xv, xm, xw⟩ := x
        simp only at h5 a0 a1 hc hw hat ⊢
        rcases h5 with rfl | rfl | rfl | rfl | rfl
        · exact vmiss_17 m c d s.cs ws12 11 s.ct W b 0 k s.r A2 s.bk.length cap xa xb xc xv xm xw _ (hFr.ext hX) (hM.ext hX) a0 a1 hat.1 hat.2 hw rfl
        · exact vmiss_18 m c d s.cs ws12 11 s.ct W b 0 k s.r A2 s.bk.length cap xa xb xc xv xm xw _ (hFr.ext hX) (hM.ext hX) a0 a1 hat.1 hat.2 hw rfl
        · exact vmiss_19 m c d s.cs ws12 11 s.ct W b 0 k s.r A2 s.bk.length cap xa xb xc xv xm xw _ (hFr.ext hX) (hM.ext hX) a0 a1 hat.1 hat.2 hw rfl
        · exact vmiss_20 m c d s.cs ws12 11 s.ct W b 0 k s.r A2 s.bk.length cap xa xb xc xv xm xw _ (hFr.ext hX) (hM.ext hX) a0 a1 hat.1 hat.2 hw rfl
        · exact vmiss_21 m c d s.cs ws12 11 s.ct W b 0 k s.r A2 s.bk.length cap xa xb xc xv xm xw _ (hFr.ext hX) (hM.ext hX) a0 a1 (hc rfl).1 (hc rfl).2 hat.1 hat.2 hw rfl
      · rintro e w' ⟨cc, he, hch, hf, hX⟩
        refine ⟨_, he, ⟨cc, rfl, ?_⟩, by rw [hs]; exact hf, hM.ext hX, Upto.of_ext hX⟩
        rw [hs]; exact hch
    · rw [if_neg hw]
      obtain ⟨w0, w1, w2⟩ := width_in hw
      have hkk : addressF s.r x = ((s.k x : Nat) : Int) := by
        show s.at_ x = _
        unfold VmS.k; omega
      have hkl : s.k x < s.cs.length := by rw [hG.cl]; unfold VmS.k; omega
      have hne : ws12.getD (s.k x) 0 ≠ 0 := w2
      have hcb : s.ct ≤ 1000000000000000 := by have := hG.t1; omega
      refine (step_cell M b 0 bc off ccap l s.r s.bk m w m c d (s.cs.set (s.k x) (s.new x)) ws12 11 (s.ct + 1) k x.op x.a x.b x.c x.v x.m x.wh (s.res x) hF0 hI hlen6 hk hx hv' h5 a0 a1 hL.Mb hL.Mm hL.Mc hL.bm hL.bc hL.bd hM.lm hM.lc (fun W hX => ?_)).mono ?_
      · obtain ⟨op, xa, xb, xc, xv, xm, xw⟩ := x
        simp only at h5 a0 a1 hc ⊢
        have hold : ∀ kind : Int, kind ≠ 4 → ∀ wd h v : Int, newF kind wd h 0 v = newF kind wd h (s.r.getD xa.toNat 0) v := fun kind hk wd h v => newF_old hk
        rcases h5 with rfl | rfl | rfl | rfl | rfl
        · have := vaccess_17 m c d s.cs ws12 11 s.ct W b 0 k s.r A2 s.bk.length cap xa xb xc xv xm xw _ (hFr.ext hX) (hM.ext hX) a0 a1 hkl hne hG.t0 hcb hkk
          exact this
        · have := vaccess_18 m c d s.cs ws12 11 s.ct W b 0 k s.r A2 s.bk.length cap xa xb xc xv xm xw _ (hFr.ext hX) (hM.ext hX) a0 a1 hkl hne hG.t0 hcb hkk
          exact this
        · have := vaccess_19 m c d s.cs ws12 11 s.ct W b 0 k s.r A2 s.bk.length cap xa xb xc xv xm xw _ (hFr.ext hX) (hM.ext hX) a0 a1 hkl hne hG.t0 hcb hkk
          rw [hold 2 (by decide)] at this; exact this
        · have := vaccess_20 m c d s.cs ws12 11 s.ct W b 0 k s.r A2 s.bk.length cap xa xb xc xv xm xw _ (hFr.ext hX) (hM.ext hX) a0 a1 hkl hne hG.t0 hcb hkk
          rw [hold 3 (by decide)] at this; exact this
        · exact vaccess_21 m c d s.cs ws12 11 s.ct W b 0 k s.r A2 s.bk.length cap xa xb xc xv xm xw _ (hFr.ext hX) (hM.ext hX) a0 a1 (hc rfl).1 (hc rfl).2 hkl hne hG.t0 hcb hkk
      · rintro e w' ⟨he, hf, hm, hu⟩
        exact ⟨_, he, rfl, by rw [hs]; exact hf, hm, hu⟩
  rw [if_neg h21]
  refine (step_away M b 0 bc off ccap l s.r s.bk _ w k x.op x.a x.b x.c x.v x.m x.wh hF0 hI hlen6 hk hx hv' (by omega)).mono fun e w' h => ?_
  have := VPost.of_step hL hM h
  rw [← hs] at this; exact this
end
end Go.Proofs.YtoncebfhkoabaaaDoor
