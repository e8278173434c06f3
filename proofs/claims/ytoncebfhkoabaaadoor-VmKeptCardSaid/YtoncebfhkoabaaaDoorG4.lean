import Derived.Test.YtoncebfhkoabaaaDoorG1
import Derived.Test.YtoncebfhkoabaaaDoorD4
import Derived.OrdersHeld
import Derived.Deep.RegionHeld
/- The three instructions of VmKept, in plain words. -/
namespace Go.Proofs.YtoncebfhkoabaaaDoor
open Go.RowKit Go.Extern.Stop Go.Stop Go.Extern

def keptL (v own : Int) : List InsD := [⟨17, 1, -1, 0, v, 0, 0⟩, ⟨56, 0, 0, 0, 0, 0, 0⟩, ⟨own, 0, 0, 0, 0, 0, 0⟩]
def keptS (pc : Int) (r : List Int) : VmS := ⟨pc, r, [4, 5], List.replicate 12 0, 0⟩
theorem kept_may (v : Int) : vmayF ⟨17, 1, -1, 0, v, 0, 0⟩ 3 = true := by
  have h : mayF (bare ⟨17, 1, -1, 0, v, 0, 0⟩) 1 true = true := by
    have e : bare ⟨17, 1, -1, 0, v, 0, 0⟩ = ⟨17, 1, -1, 0, v, 0, 0⟩ := rfl
    rw [e]
    unfold mayF
    have h1 : okOp ⟨17, 1, -1, 0, v, 0, 0⟩ true = true := by rfl
    have h2 : okM ⟨17, 1, -1, 0, v, 0, 0⟩ = true := by rfl
    have h3 : okF ⟨17, 1, -1, 0, v, 0, 0⟩ 1 = true := by
      unfold okF
      have g1 : numF ⟨17, 1, -1, 0, v, 0, 0⟩ (fV 17) 1 = true := by
        unfold numF
        rw [if_neg (by first | decide | (dsimp only; decide)), if_neg (by first | decide | (dsimp only; decide)), if_neg (by first | decide | (dsimp only; decide)), if_neg (by first | decide | (dsimp only; decide))]
        rfl
      have g2 : regF 1 (fA 17) false = true := by rfl
      have g3 : regF (-1) (fB 17) (sNoB 17) = true := by rfl
      have g4 : regF 0 (fC 17) (sNoC 17) = true := by rfl
      simp only [g1, g2, g3, g4, Bool.and_self]
    rw [h1, h2, h3]; rfl
  unfold vmayF
  have e2 : isJ 17 = false := rfl
  have e3 : ((17 : Int) != 22) = true := rfl
  simp only [e2, e3, h, Bool.not_false, Bool.true_or, Bool.and_self]
theorem kept0 {v own : Int} {r : List Int} (h0 : 11 ≤ v) (h1 : v ≤ 1010) : vmStep (keptL v own) (keptS 0 r) = (3, keptS 0 r, some ([(vmS, 0), (memS, v)], 2)) := by
  have h := vmStep_in (l := keptL v own) (s := keptS 0 r) (k := 0) (by simp [keptL]) rfl
  rw [h]
  have e : (keptL v own)[0]'(by simp [keptL]) = ⟨17, 1, -1, 0, v, 0, 0⟩ := rfl
  rw [e]
  have hl : ((keptL v own).length : Int) = 3 := rfl
  rw [hl]
  unfold insStep
  have ha : (keptS 0 r).at_ ⟨17, 1, -1, 0, v, 0, 0⟩ = v := rfl
  have hw : widthF ws12 v = 0 := by
    unfold widthF
    by_cases h12 : v < (ws12.length : Int)
    · have hv : v = 11 := by simp [ws12] at h12; omega
      subst hv; rfl
    · rw [if_neg (fun h => h12 h.2)]
  rw [kept_may v, ha, hw, if_neg (by first | decide | (dsimp only; decide)), if_neg (by first | decide | (dsimp only; decide)), if_neg (by first | decide | (dsimp only; decide)), if_neg (by first | decide | (dsimp only; decide)), if_neg (by first | decide | (dsimp only; decide)), if_neg (by first | decide | (dsimp only; decide)), if_pos (by first | decide | (dsimp only; decide)), if_pos rfl]
  have hm : missN v = v := by unfold missN; rw [if_pos (by omega)]
  rw [hm]
  rfl
theorem kept1 {v own : Int} {r : List Int} : vmStep (keptL v own) (keptS 1 r) = (1, keptS 1 r, none) := by
  have h := vmStep_in (l := keptL v own) (s := keptS 1 r) (k := 1) (by simp [keptL]) rfl
  rw [h]
  rfl
theorem kept3 {v own p : Int} {r : List Int} (h : 3 ≤ p) : vmStep (keptL v own) (keptS p r) = (3, keptS p r, none) := vmStep_out (.inr (by show (3 : Int) ≤ p; exact h))
theorem keptS_good (pc : Int) (r : List Int) (hl : r.length = 32) (hr : ∀ i, Rng (r.getD i 0)) : (keptS pc r).Good :=
  ⟨hl, hr, by show 2 ≤ 8; omega, rfl, fun i => by show Rng ((List.replicate 12 (0 : Int)).getD i 0); rw [getD_rep]; exact ⟨by decide, by decide⟩, Int.le_refl _, by show (0 : Int) ≤ 1000000000; omega⟩
theorem keptL_rng {v own : Int} (h : Rng v) : ∀ x ∈ keptL v own, Rng x.v := by
  intro x hx
  simp only [keptL, List.mem_cons, List.not_mem_nil, or_false] at hx
  rcases hx with rfl | rfl | rfl
  · exact h
  · exact ⟨by dsimp only; decide, by dsimp only; decide⟩
  · exact ⟨by dsimp only; decide, by dsimp only; decide⟩
end Go.Proofs.YtoncebfhkoabaaaDoor

/- Walk of VmKept. -/
namespace Go.Proofs.YtoncebfhkoabaaaDoor
open Go.RowKit Go.Extern.Stop Go.Stop Go.Extern
set_option linter.unusedSimpArgs false

/-- Where the frame, the memory, the copy of the registers and the code lie. -/
structure KSpot (B0 f m c d T Lb : Nat) : Prop where
  b1 : B0 ≤ m
  b2 : B0 ≤ c
  b3 : B0 ≤ d
  l1 : m < f
  l2 : c < f
  l3 : d < f
  t : f < T
  lb : T < Lb
/-- What stands between two steps. -/
structure Kept (w0 : World) (f m c d T Lb : Nat) (l : List InsD) (r : List Int) (W : World) (s : VmS) : Prop where
  hF : FrB (fun q => q = f ∨ q = m ∨ q = c) W f 0 s.pc s.r s.bk
  hM : MemAt W m c d s.cs ws12 11 s.ct
  hL : InsSl W (some ⟨Lb, 0, none⟩) l
  hT : W.rangeAt T 0 (r.map (Value.int .u64))
  lT : T < W.heap.size
  hx : Ext w0 W
theorem Kept.ext {w0 W W' : World} {f m c d T Lb : Nat} {l : List InsD} {r : List Int} {s : VmS} (h : Kept w0 f m c d T Lb l r W s) (hx : Ext W W') : Kept w0 f m c d T Lb l r W' s :=
  ⟨h.hF.ext hx, h.hM.ext hx, h.hL.ext hx, fun j v hj => (hx.cell (p := ⟨T, 0 + j, none⟩) h.lT).trans (h.hT j v hj), Nat.lt_of_lt_of_le h.lT hx.size, h.hx.trans (hx.mono h.hx.size)⟩
theorem kept_v {w0 W : World} {f m c d T Lb ccap : Nat} {l : List InsD} {r : List Int} {s : VmS} (hs : KSpot w0.heap.size f m c d T Lb) (hg : s.Good) (hlen : l.length ≤ 2048) (hv : ∀ x ∈ l, Rng x.v) (h : Kept w0 f m c d T Lb l r W s) :
    Calls Tryd.prog 10 #[.pointer (some ⟨f, 0, none⟩), .slice (some ⟨Lb, 0, none⟩) l.length ccap, .iface 25 (.pointer (some ⟨m, 0, none⟩))] W fun e W' =>
      ∃ v, e = .returned (.tuple #[.int .i64 (vmStep l s).1, v]) ∧ ErrPost W' v (vmStep l s).2.2 ∧ Kept w0 f m c d T Lb l r W' (vmStep l s).2.1 := by
  obtain ⟨b1, b2, b3, l1, l2, l3, t, lb⟩ := hs
  have k1 := h.hF.lt
  refine (vstep_any (M := fun q => q = f ∨ q = m ∨ q = c) ⟨.inl rfl, .inr (.inl rfl), .inr (.inr rfl), by omega, by omega, by omega, fun k hk => by omega⟩ hg hlen hv h.hF h.hL h.hM).mono ?_
  rintro e W' ⟨v, he, hp, hF, hM, hU⟩
  refine ⟨v, he, hp, hF, hM, h.hL.upto hU (fun _ a ha hk => by injection ha with ha; subst ha; simp only at hk; omega), fun j u hj => (hU.cell (p := ⟨T, 0 + j, none⟩) h.lT (by simp only; omega)).trans (h.hT j u hj), Nat.lt_of_lt_of_le h.lT hU.size, h.hx.trans (hU.below h.hx.size (fun k hk => by omega))⟩
theorem kept_in (w : World) (v own : Int) (T : TypeId) : InsSl (w.alloc (.cells #[.int .i64 17, .int .i64 1, .int .i64 (-1), .int .i64 0, .int .u64 v, .int .i64 0, .int .i64 0, .int .i64 56, .int .i64 0, .int .i64 0, .int .i64 0, .int .u64 0, .int .i64 0, .int .i64 0,
    .int .i64 own, .int .i64 0, .int .i64 0, .int .i64 0, .int .u64 0, .int .i64 0, .int .i64 0] T)) (some ⟨w.heap.size, 0, none⟩) (keptL v own) := fun _ => by
  refine ⟨_, 0, rfl, fun i hi => ?_⟩
  have h3 : i = 0 ∨ i = 1 ∨ i = 2 := by simp [keptL] at hi; omega
  rcases h3 with rfl | rfl | rfl <;> simp [keptL]
theorem Kept.see {w0 W : World} {f m c d T Lb : Nat} {l : List InsD} {r : List Int} {p : Int} (h : Kept w0 f m c d T Lb l r W (keptS p r)) {ra : List Value} (hra : ra = r.map (Value.int .u64)) :
    W.cell? ⟨f, 0, none⟩ = some (.int .i64 p) ∧ W.rangeAt f 1 ra ∧ W.rangeAt T 0 ra := by
  obtain ⟨A, cap, hF, _⟩ := h.hF
  subst hra
  exact ⟨hF.pc, hF.range, h.hT⟩
theorem Kept.fz {w0 W : World} {f m c d T Lb : Nat} {l : List InsD} {r : List Int} {s : VmS} (h : Kept w0 f m c d T Lb l r W s) : W.frozen? ⟨f, 0, none⟩ = false := by
  obtain ⟨A, cap, hF, _⟩ := h.hF
  exact hF.fz0
theorem Kept.setPc {w0 W : World} {f m c d T Lb : Nat} {l : List InsD} {r : List Int} {p : Int} (hs : KSpot w0.heap.size f m c d T Lb) (h : Kept w0 f m c d T Lb l r W (keptS p r)) (p' : Int) : Kept w0 f m c d T Lb l r (W.setCell ⟨f, 0, none⟩ (.int .i64 p')) (keptS p' r) := by
  obtain ⟨b1, b2, b3, l1, l2, l3, t, lb⟩ := hs
  have hU : Upto (· = f) W (W.setCell ⟨f, 0, none⟩ (.int .i64 p')) := (Upto.refl _ _).setB _ _
  obtain ⟨A, cap, hF, hB, hc, hM⟩ := h.hF
  exact ⟨⟨A, cap, hF.setPc _, hB.upto hU (fun hn a ha hk => hM hn a ha (.inl hk)), hc, hM⟩, h.hM.upto hU (by omega) (by omega) (by omega), h.hL.upto hU (fun _ a ha hk => by injection ha with ha; subst ha; simp only at hk; omega),
    fun j u hj => (hU.cell (p := ⟨T, 0 + j, none⟩) h.lT (by simp only; omega)).trans (h.hT j u hj), Nat.lt_of_lt_of_le h.lT hU.size, h.hx.setCell (p := ⟨f, 0, none⟩) (by simp only; omega) _⟩
theorem back45 (w : World) : BackIs (w.alloc (.cells #[.int .i64 4, .int .i64 5] 3)) (some ⟨w.heap.size, 0, none⟩) [4, 5] := fun _ => ⟨_, 0, rfl, fun i hi => by
  have : i = 0 ∨ i = 1 := by simp at hi; omega
  rcases this with rfl | rfl <;> simp⟩
theorem there_new (w : World) (C : Array Value) (T : TypeId) (n : Nat) (hn : n ≤ C.size) : (w.alloc (.cells C T)).there w.heap.size 0 n := fun j hj => by
  refine ⟨?_, World.frozen?_alloc_at _ _ _ _ rfl⟩
  rw [World.cell?_alloc_at _ _ _ _ rfl, Nat.zero_add, Array.getElem?_eq_getElem (by omega)]
  rfl
theorem setCells_below {B b : Nat} (hb : B ≤ b) : ∀ (vs : List Value) (o : Nat) (w w' : World), Below B w w' → Below B w (w'.setCells b o vs)
  | [], _, _, _, h => h
  | v :: vs, o, w, w', h => by
    rw [World.setCells]
    exact setCells_below hb vs (o + 1) w _ (h.setCell (p := ⟨b, o, none⟩) hb v)

theorem wpList_store_new {P : Program} {ops : Array Oper} {rest : List Oper} {op : Oper} {a : Act} {w : World} {C : Array Value} {T : TypeId} {Q : Exit → Act → World → Prop} (ty : TypeId) (x y : Operand) (ho : op.op = .store ty x y) (cs : List Value) (hgd : op.guard = none)
    (hx : a.eval x = .pointer (some ⟨w.heap.size, 0, none⟩)) (hy : a.eval y = .agg cs.toArray) (hC : C.size = cs.length) (hi : (P.info? ty).map (·.size) = some cs.length) (h1 : ∀ v ∈ cs, v.oneCell' = true)
    (h : ∀ W, Ext w W → W.rangeAt w.heap.size 0 cs → w.heap.size < W.heap.size → wpList P ops Q rest (a.put op.dst undef) W) : wpList P ops Q (op :: rest) a (w.alloc (.cells C T)) := by
  have ht := there_new w C T cs.length (by omega)
  refine wpList_store_mid hgd ty x y ho w.heap.size 0 cs.toArray hx hy (by rw [List.size_toArray]; exact ht) (by rw [List.size_toArray]; exact hi) (all_oneCell_toArray h1) ?_
  have hx := setCells_below (Nat.le_refl w.heap.size) cs 0 w _ (ext1 w (.cells C T))
  refine h _ hx (World.rangeAt_setCells_same _ _ _ _ ht) ?_
  have h2 := setCells_below (Nat.le_refl w.heap.size) cs 0 (w.alloc (.cells C T)) _ (Below.refl _ _)
  have := h2.size
  simp at this
  exact this

set_option maxHeartbeats 8000000 in
set_option maxRecDepth 100000 in
theorem vmKept_walk (op : Int) (R : Option Addr) (cr : Nat) (regs : List Int) (at_ pc : Int) (w : World)
    (hreg : (regs.length : Int) ≤ 9223372036854775807) (hR : U64Sl w R regs) (hrr : ∀ i, Rng (regs.getD i 0)) (ha : Rng at_)
    (o1 : -9223372036854775808 ≤ op) (o2 : op < 9223372036854775808) (c1 : -9223372036854775808 ≤ pc) (c2 : pc < 9223372036854775808) (hgl : Gl w) :
    Calls Tryd.prog 4 #[.int .i64 op, .slice R regs.length cr, .int .u64 at_, .int .i64 pc] w fun e w' => e = .returned (.bool true) ∧ Ext w w' := by
  have HR := Lib.hid hR
  have GL := Lib.hid hgl
  have CB := Lib.hid (both_any none 0 [] (by simp) w (fun h => absurd rfl h) (fun i => by show Rng (([] : List Int).getD i 0); rw [List.getD_nil]; exact ⟨by decide, by decide⟩))
  have RG := Lib.hid (fun i => loadR_rng regs hrr (min regs.length 32) i)
  have RL := Lib.hid (loadR_length regs (min regs.length 32))
  obtain ⟨q1, hq1, hqe1⟩ : ∃ q : Nat, q < 36 ∧ op % 36 = q := ⟨(op % 36).toNat, by omega, by omega⟩
  have CW1 := Lib.hid (fun w => within_any op 36 o1 o2 (by omega) (by omega) w)
  obtain ⟨q2, hq2, hqe2⟩ : ∃ q : Nat, q < 1000 ∧ pc % 1000 = q := ⟨(pc % 1000).toNat, by omega, by omega⟩
  have CW2 := Lib.hid (fun w => within_any pc 1000 c1 c2 (by omega) (by omega) w)
  rw [hqe1] at CW1
  rw [hqe2] at CW2
  obtain ⟨a0, a1⟩ := ha
  clear hqe1 hqe2 hR hgl hrr o1 o2 c1 c2
  go_enter Tryd.func4, Tryd.ntmps4
  go_upto_region 4 with (first
      | (go_at_call 5; refine CB.out.mono ?_; rintro e w1 ⟨m, c, d, m2, c2, d2, rfl, hT, hx⟩; have T1 := Lib.hid hT; have X1 := Lib.hid hx; clear hT hx))
  obtain ⟨hP, hQ, b1, b2, b3, h4, h5, h6⟩ := T1.out
  have l1 := hP.lm
  have l2 := hP.lc
  have l3 := hP.ld
  have MM1 := Lib.hid hP
  clear hP hQ h4 h5 h6 T1
  go_upto_region 5 with (first
    | (go_at_call 7
       refine (frame_back 0 R cr regs (some ⟨w1.heap.size, 0, none⟩) 2 [4, 5] hreg (by simp) _ ((HR.out.ext X1.out).ext (ext1 _ _)) (fun _ => ⟨_, 0, rfl, fun i hi => by
         have : i = 0 ∨ i = 1 := by simp at hi; omega
         rcases this with rfl | rfl <;> simp⟩)).mono ?_
       rintro e w2 ⟨f, g, rfl, hf, hg, hFB, hx2⟩
       have FB := Lib.hid ((hFB (fun q => q = f ∨ q = m ∨ q = c) (fun q hq => by simp at hf ⊢; omega)).1)
       have X2 := Lib.hid ((ext1 w1 _).trans (hx2.mono (by simp)))
       have lf : w1.heap.size < f := by simp at hf; omega
       clear hFB hx2 hf hg))
  obtain ⟨r, hr⟩ : ∃ r, r = loadR regs (min regs.length 32) := ⟨_, rfl⟩
  have FB2 := Lib.hid (show FrB (fun q => q = f ∨ q = m ∨ q = c) w2 f 0 0 r [4, 5] from by rw [hr]; exact FB.out)
  rw [← hr] at RG RL
  clear hr FB
  obtain ⟨A1, c1, hfr, _, _, _⟩ := FB2.out
  have rf := hfr.range
  have lf2 := hfr.lt
  have hinf : (Tryd.prog.info? 48).map (·.size) = some (r.map (Value.int .u64)).length := by rw [List.length_map, RL.out]; kernel_rfl
  have RF := Lib.hid rf
  have HI := Lib.hid hinf
  clear hfr rf hinf
  refine wp_region_lit ?_
  refine wpList_plain rfl (fun K hK => ?_); go_simp; refine hK _ _ ?_; clear hK K
  refine wpList_plain rfl (fun K hK => ?_); go_simp; refine hK _ _ ?_; clear hK K
  refine wpList_plain rfl (fun K hK => ?_); go_simp; refine hK _ _ ?_; clear hK K
  refine wpList_load_mid rfl 48 (.tmp 33) rfl f 1 (by rfl) (r.map (Value.int .u64)) _ RF.out Tryd.underlying48 rfl HI.out ?_
  simp only [Act.put, List.setIfInBounds_toArray, List.set_cons_zero, List.set_cons_succ]
  refine wpList_plain rfl (fun K hK => ?_); go_simp; refine hK _ _ ?_; clear hK K
  have HL := Lib.hid (show (r.map (Value.int .u64)).length = 32 by rw [List.length_map, RL.out])
  refine wpList_store_new 48 (.tmp 13) (.tmp 34) rfl (r.map (Value.int .u64)) rfl (by rfl) (by rfl) (by rw [HL.out]; rfl) HI.out (fun v hv => by obtain ⟨x, _, rfl⟩ := List.mem_map.1 hv; rfl) ?_
  intro w3 hx3 hT3 hlt3
  generalize hTT : w2.heap.size = T at hT3 hlt3 lf2
  have X3 := Lib.hid hx3
  have T3 := Lib.hid hT3
  clear hx3 hT3 RF
  go_upto_region 8 with (first
    | (go_at_call 9; refine (CW1.out _).mono ?_; rintro e w4 ⟨rfl, rfl⟩))
  have ha3 : 0 ≤ at_ % 1000 ∧ at_ % 1000 < 1000 := by omega
  have SP := Lib.hid (show KSpot w.heap.size f m c d T w3.heap.size from ⟨b1, b2, b3, by omega, by omega, by omega, lf2, hlt3⟩)
  have KG := Lib.hid (fun p => keptS_good p r RL.out RG.out)
  have KR := Lib.hid (keptL_rng (v := 11 + at_ % 1000) (own := 23 + q1) ⟨by omega, by omega⟩)
  have K0 := Lib.hid (show ∀ O, Kept w f m c d T w3.heap.size (keptL (11 + at_ % 1000) (23 + q1)) r (w3.alloc (.cells #[.int .i64 17, .int .i64 1, .int .i64 (-1), .int .i64 0, .int .u64 (11 + at_ % 1000), .int .i64 0, .int .i64 0, .int .i64 56, .int .i64 0, .int .i64 0, .int .i64 0, .int .u64 0, .int .i64 0, .int .i64 0,
    .int .i64 (23 + q1), .int .i64 0, .int .i64 0, .int .i64 0, .int .u64 0, .int .i64 0, .int .i64 0] O)) (keptS 0 r) from fun O =>
    ⟨(FB2.out.ext X3.out).ext (ext1 _ _), ((MM1.out.ext X2.out).ext X3.out).ext (ext1 _ _), kept_in _ _ _ _, fun j v hj => ((ext1 w3 _).cell (p := ⟨T, 0 + j, none⟩) hlt3).trans (T3.out j v hj), by simp; omega, ((X1.out.trans (X2.out.mono X1.out.size)).trans (X3.out.mono (Nat.le_trans X1.out.size X2.out.size))).trans ((ext1 _ _).mono (Nat.le_trans (Nat.le_trans X1.out.size X2.out.size) X3.out.size))⟩)
  generalize w3.heap.size = Lb at *
  clear FB2 X2 X3 T3 MM1 b1 b2 b3 l1 l2 l3 lf lf2 hlt3
  go_upto_region 9 with (first
    | (go_at_call 10
       refine (kept_v (ccap := 3) SP.out (KG.out 0) (by simp [keptL]) KR.out (K0.out _)).mono ?_
       rintro e w5 ⟨v, he, hp, hk⟩
       rw [kept0 (by omega) (by omega)] at he hp hk
       subst he
       have P5 := Lib.hid hp
       have K5 := Lib.hid hk
       clear hp hk))
  obtain ⟨ra, hra⟩ : ∃ ra, ra = r.map (Value.int .u64) := ⟨_, rfl⟩
  have he : ∀ w, (Op.equalIn 10000 48 (.agg ra.toArray) (.agg ra.toArray)).run Tryd.prog w = .ok true w := by rw [hra]; exact Tryd.eqRegs r RL.out
  have hu := Tryd.underlying48
  have hinf : (Tryd.prog.info? 48).map (·.size) = some ra.length := by rw [hra]; exact HI.out
  have hgd : Tryd.prog.eqGuardType Tryd.prog.depth 48 = false := by kernel_rfl
  have RA := Lib.hid hra
  clear hra
  have WR := Lib.hid (show IntKind.i64.wrap (IntKind.u64.wrap (11 + at_.tmod 1000)) = 11 + at_ % 1000 by rw [Int.tmod_eq_emod_of_nonneg a0, wraps_u64 _ (by omega) (by omega), IntWalk.i64_in _ ⟨by omega, by omega⟩])
  have KS5 := Lib.hid (show ∀ W, Ext w5 W → (fun w' => w'.cell? ⟨f, 0, none⟩ = some (.int .i64 0) ∧ w'.rangeAt f 1 ra ∧ w'.rangeAt T 0 ra) W from fun W hx => (K5.out.ext hx).see RA.out)
  have X5 := Lib.hid (show Ext w5 w5.drew from (Below.refl _ _).drew)
  refine wp_region_held_drew (S := (fun w' => w'.cell? ⟨f, 0, none⟩ = some (.int .i64 0) ∧ w'.rangeAt f 1 ra ∧ w'.rangeAt T 0 ra)) (by kernel_rfl) (KS5.out _ X5.out) (fun hHeld => ?_)
  refine wpAnyH_take (i := 0) (oi := { dst := some 54, op := Op.move (Operand.tmp 16), type := 3, pos := "law.go:183", after := #[], guard := none }) (v := ?v1) rfl (by kernel_rfl) (by kernel_rfl) (by kernel_rfl) (fun _ _ _ h => h) (Or.inl ⟨by rfl, ?y1⟩) (by assumption) ?r1
  case y1 =>
    intro w' hSw
    try dsimp only at hSw
    go_simp
    try with_reducible rfl
  try simp only [Act.put, List.setIfInBounds_toArray, List.set_cons_zero, List.set_cons_succ]
  refine wpAnyH_take (i := 1) (oi := { dst := some 55, op := Op.binOp BinOp.neq 3 (Operand.tmp 54) (Operand.const (Value.int IntKind.i64 3)) 3, type := 4, pos := "law.go:183", after := #[{ on := 0, ground := Ground.data }], guard := none }) (v := ?v2) rfl (by kernel_rfl) (by kernel_rfl) (by kernel_rfl) (fun _ _ _ h => h) (Or.inl ⟨by rfl, ?y2⟩) (by assumption) ?r2
  case y2 =>
    intro w' hSw
    try dsimp only at hSw
    go_simp
    try with_reducible rfl
  try simp only [Act.put, List.setIfInBounds_toArray, List.set_cons_zero, List.set_cons_succ]
  refine wpAnyH_take (i := 2) (oi := { dst := some 56, op := Op.move (Operand.tmp 55), type := 4, pos := "law.go:183", after := #[{ on := 1, ground := Ground.data }], guard := none }) (v := ?v3) rfl (by kernel_rfl) (by kernel_rfl) (by kernel_rfl) (fun _ _ _ h => h) (Or.inl ⟨by rfl, ?y3⟩) (by assumption) ?r3
  case y3 =>
    intro w' hSw
    try dsimp only at hSw
    go_simp
    try with_reducible rfl
  try simp only [Act.put, List.setIfInBounds_toArray, List.set_cons_zero, List.set_cons_succ]
  refine wpAnyH_take (i := 3) (oi := { dst := some 57, op := Op.move (Operand.tmp 17), type := 37, pos := "law.go:183", after := #[{ on := 2, ground := Ground.guard }], guard := some (2, false) }) (v := ?v4) rfl (by kernel_rfl) (by kernel_rfl) (by kernel_rfl) (fun _ _ _ h => h) (Or.inl ⟨by rfl, ?y4⟩) (by assumption) ?r4
  case y4 =>
    intro w' hSw
    try dsimp only at hSw
    go_simp
    try with_reducible rfl
  try simp only [Act.put, List.setIfInBounds_toArray, List.set_cons_zero, List.set_cons_succ]
  refine wpAnyH_take (i := 4) (oi := { dst := some 58, op := Op.move (Operand.tmp 2), type := 47, pos := "law.go:183", after := #[{ on := 2, ground := Ground.guard }], guard := some (2, false) }) (v := ?v5) rfl (by kernel_rfl) (by kernel_rfl) (by kernel_rfl) (fun _ _ _ h => h) (Or.inl ⟨by rfl, ?y5⟩) (by assumption) ?r5
  case y5 =>
    intro w' hSw
    try dsimp only at hSw
    go_simp
    try with_reducible rfl
  try simp only [Act.put, List.setIfInBounds_toArray, List.set_cons_zero, List.set_cons_succ]
  refine wpAnyH_take (i := 5) (oi := { dst := some 59, op := Op.binOp BinOp.rem 47 (Operand.tmp 58) (Operand.const (Value.int IntKind.u64 1000)) 47, type := 47, pos := "law.go:183", after := #[{ on := 4, ground := Ground.data }, { on := 2, ground := Ground.guard }], guard := some (2, false) }) (v := ?v6) rfl (by kernel_rfl) (by kernel_rfl) (by kernel_rfl) (fun _ _ _ h => h) (Or.inl ⟨by rfl, ?y6⟩) (by assumption) ?r6
  case y6 =>
    intro w' hSw
    try dsimp only at hSw
    go_simp
    try with_reducible rfl
  try simp only [Act.put, List.setIfInBounds_toArray, List.set_cons_zero, List.set_cons_succ]
  refine wpAnyH_take (i := 6) (oi := { dst := some 60, op := Op.binOp BinOp.add 47 (Operand.const (Value.int IntKind.u64 11)) (Operand.tmp 59) 47, type := 47, pos := "law.go:183", after := #[{ on := 5, ground := Ground.data }, { on := 2, ground := Ground.guard }], guard := some (2, false) }) (v := ?v7) rfl (by kernel_rfl) (by kernel_rfl) (by kernel_rfl) (fun _ _ _ h => h) (Or.inl ⟨by rfl, ?y7⟩) (by assumption) ?r7
  case y7 =>
    intro w' hSw
    try dsimp only at hSw
    go_simp
    try with_reducible rfl
  try simp only [Act.put, List.setIfInBounds_toArray, List.set_cons_zero, List.set_cons_succ]
  refine wpAnyH_take (i := 7) (oi := { dst := some 61, op := Op.convert 47 3 (Operand.tmp 60), type := 3, pos := "law.go:183", after := #[{ on := 6, ground := Ground.data }, { on := 2, ground := Ground.guard }], guard := some (2, false) }) (v := ?v8) rfl (by kernel_rfl) (by kernel_rfl) (by kernel_rfl) (fun _ _ _ h => h) (Or.inl ⟨by rfl, ?y8⟩) (by assumption) ?r8
  case y8 =>
    intro w' hSw
    try dsimp only at hSw
    go_simp
    try with_reducible rfl
  try simp only [Act.put, List.setIfInBounds_toArray, List.set_cons_zero, List.set_cons_succ]
  refine wpAnyH_ready (rs := [8]) (by kernel_rfl) (by simp) ?_
  refine AllReadyH.cons (o := { dst := some 62, op := Op.call { callee := Callee.value (Operand.func 16), args := #[Operand.const (Value.string { data := #[109, 101, 109] }), Operand.tmp 61, Operand.const (Value.int IntKind.i64 2)], argTypes := #[9, 3, 55] }, type := 40, pos := "law.go:183", after := #[{ on := 7, ground := Ground.data }, { on := 2, ground := Ground.chain }, { on := 2, ground := Ground.guard }], guard := some (2, false) }) rfl (fun K hK => ?_) AllReadyH.nil
  go_simp
  go_at_call 16
  refine (no_any _ _ _ _).mono ?_
  rintro e w6 ⟨b6, rfl, hf6, hx6⟩
  rw [WR.out] at hf6
  have F6 := Lib.hid hf6
  have X6 := Lib.hid (X5.out.trans (hx6.mono X5.out.size))
  clear hf6 hx6
  try go_wp2_with fail
  refine hK.out _ _ (KS5.out _ X6.out) (fun hHeld => ?_)
  clear hK K
  try simp only [Act.put, List.setIfInBounds_toArray, List.set_cons_zero, List.set_cons_succ]
  refine wpAnyH_ready (rs := [9]) (by kernel_rfl) (by simp) ?_
  refine AllReadyH.cons (o := { dst := some 63, op := Op.call { callee := Callee.value (Operand.func 15), args := #[Operand.const (Value.string { data := #[118, 109] }), Operand.const (Value.int IntKind.i64 0), Operand.tmp 62], argTypes := #[9, 3, 40] }, type := 40, pos := "law.go:183", after := #[{ on := 8, ground := Ground.data }, { on := 8, ground := Ground.chain }, { on := 2, ground := Ground.guard }], guard := some (2, false) }) rfl (fun K hK => ?_) AllReadyH.nil
  go_simp
  go_at_call 15
  refine (in_one vmS memS 0 (11 + at_ % 1000) 2 b6 _ F6.out).mono ?_
  rintro e w7 ⟨u7, rfl, hf7, hx7⟩
  have F7 := Lib.hid hf7
  have X7 := Lib.hid (X6.out.trans (hx7.mono X6.out.size))
  clear hf7 hx7
  try go_wp2_with fail
  refine hK.out _ _ (KS5.out _ X7.out) (fun hHeld => ?_)
  clear hK K
  try simp only [Act.put, List.setIfInBounds_toArray, List.set_cons_zero, List.set_cons_succ]
  refine wpAnyH_ready (rs := [10]) (by kernel_rfl) (by simp) ?_
  refine AllReadyH.cons (o := { dst := some 64, op := Op.call { callee := Callee.value (Operand.func 12), args := #[Operand.tmp 57, Operand.tmp 63], argTypes := #[37, 40] }, type := 4, pos := "law.go:183", after := #[{ on := 3, ground := Ground.data }, { on := 9, ground := Ground.data }, { on := 9, ground := Ground.chain }, { on := 2, ground := Ground.guard }], guard := some (2, false) }) rfl (fun K hK => ?_) AllReadyH.nil
  go_simp
  go_at_call 12
  refine (same_match _ v u7 (some ([(vmS, 0), (memS, 11 + at_ % 1000)], 2)) (P5.out.ext X7.out) F7.out (fun ls k h => by injection h with h; injection h with h1 h2; subst h1 h2; exact ⟨by simp, by simp, by omega, by omega⟩) (GL.out.ext (K5.out.ext X7.out).hx)).mono ?_
  rintro e w8 ⟨rfl, hx8⟩
  have X8 := Lib.hid (X7.out.trans (hx8.mono X7.out.size))
  clear hx8
  try go_wp2_with fail
  refine hK.out _ _ (KS5.out _ X8.out) (fun hHeld => ?_)
  clear hK K
  try simp only [Act.put, List.setIfInBounds_toArray, List.set_cons_zero, List.set_cons_succ]
  refine wpAnyH_take (i := 11) (oi := { dst := some 65, op := Op.unOp UnOp.not 4 (Operand.tmp 64), type := 4, pos := "law.go:183", after := #[{ on := 10, ground := Ground.data }, { on := 2, ground := Ground.guard }], guard := some (2, false) }) (v := ?v9) rfl (by kernel_rfl) (by kernel_rfl) (by kernel_rfl) (fun _ _ _ h => h) (Or.inl ⟨by rfl, ?y9⟩) (by assumption) ?r9
  case y9 =>
    intro w' hSw
    try dsimp only at hSw
    go_simp
    try with_reducible rfl
  try simp only [Act.put, List.setIfInBounds_toArray, List.set_cons_zero, List.set_cons_succ]
  refine wpAnyH_take (i := 12) (oi := { dst := some 66, op := Op.pick (Operand.tmp 56) (Operand.const (Value.bool true)) (Operand.tmp 65), type := 4, pos := "law.go:183", after := #[{ on := 2, ground := Ground.data }, { on := 11, ground := Ground.data }], guard := none }) (v := ?v10) rfl (by kernel_rfl) (by kernel_rfl) (by kernel_rfl) (fun _ _ _ h => h) (Or.inl ⟨by rfl, ?y10⟩) (by assumption) ?r10
  case y10 =>
    intro w' hSw
    try dsimp only at hSw
    go_simp
    try with_reducible rfl
  try simp only [Act.put, List.setIfInBounds_toArray, List.set_cons_zero, List.set_cons_succ]
  refine wpAnyH_take (i := 13) (oi := { dst := some 67, op := Op.move (Operand.tmp 66), type := 4, pos := "law.go:183", after := #[{ on := 12, ground := Ground.data }, { on := 10, ground := Ground.chain }], guard := none }) (v := ?v11) rfl (by kernel_rfl) (by kernel_rfl) (by kernel_rfl) (fun _ _ _ h => h) (Or.inl ⟨by rfl, ?y11⟩) (by assumption) ?r11
  case y11 =>
    intro w' hSw
    try dsimp only at hSw
    go_simp
    try with_reducible rfl
  try simp only [Act.put, List.setIfInBounds_toArray, List.set_cons_zero, List.set_cons_succ]
  refine wpAnyH_take (i := 14) (oi := { dst := some 68, op := Op.move (Operand.tmp 11), type := 30, pos := "law.go:183", after := #[{ on := 13, ground := Ground.guard }], guard := some (13, false) }) (v := ?v12) rfl (by kernel_rfl) (by kernel_rfl) (by kernel_rfl) (fun _ _ _ h => h) (Or.inl ⟨by rfl, ?y12⟩) (by assumption) ?r12
  case y12 =>
    intro w' hSw
    try dsimp only at hSw
    go_simp
    try with_reducible rfl
  try simp only [Act.put, List.setIfInBounds_toArray, List.set_cons_zero, List.set_cons_succ]
  refine wpAnyH_take (i := 15) (oi := { dst := some 69, op := Op.nilCheck (Operand.tmp 68), type := 0, pos := "law.go:183", after := #[{ on := 14, ground := Ground.data }, { on := 13, ground := Ground.guard }], guard := some (13, false) }) (v := ?v13) rfl (by kernel_rfl) (by kernel_rfl) (by kernel_rfl) (fun _ _ _ h => h) (Or.inl ⟨by rfl, ?y13⟩) (by assumption) ?r13
  case y13 =>
    intro w' hSw
    try dsimp only at hSw
    go_simp
    try with_reducible rfl
  try simp only [Act.put, List.setIfInBounds_toArray, List.set_cons_zero, List.set_cons_succ]
  refine wpAnyH_take (i := 16) (oi := { dst := some 70, op := Op.fieldAddr 50 (Operand.tmp 69) 1, type := 0, pos := "law.go:183", after := #[{ on := 15, ground := Ground.data }, { on := 13, ground := Ground.guard }], guard := some (13, false) }) (v := ?v14) rfl (by kernel_rfl) (by kernel_rfl) (by kernel_rfl) (fun _ _ _ h => h) (Or.inl ⟨by rfl, ?y14⟩) (by assumption) ?r14
  case y14 =>
    intro w' hSw
    try dsimp only at hSw
    go_simp
    try with_reducible rfl
  try simp only [Act.put, List.setIfInBounds_toArray, List.set_cons_zero, List.set_cons_succ]
  refine' wpAnyH_take (i := 17) (oi := { dst := some 71, op := Op.load 48 (Operand.tmp 70), type := 48, pos := "law.go:183", after := #[{ on := 16, ground := Ground.data }, { on := 13, ground := Ground.guard }], guard := some (13, false) }) (v := _) rfl (by kernel_rfl) (by kernel_rfl) (by kernel_rfl) (fun _ _ _ h => h) (yieldsIf_load_mid (by rfl) _ _ rfl _ _ rfl _ _ ?s15 ?u15 ?d15 ?i15) (by assumption) ?r15
  case s15 => (intro w' hSw; (try dsimp only at hSw); go_split_ands; assumption)
  case u15 => exact hu
  case d15 => rfl
  case i15 => exact hinf
  try simp only [Act.put, List.setIfInBounds_toArray, List.set_cons_zero, List.set_cons_succ]
  refine' wpAnyH_take (i := 18) (oi := { dst := some 72, op := Op.load 48 (Operand.tmp 13), type := 48, pos := "law.go:183", after := #[{ on := 13, ground := Ground.guard }], guard := some (13, false) }) (v := _) rfl (by kernel_rfl) (by kernel_rfl) (by kernel_rfl) (fun _ _ _ h => h) (yieldsIf_load_mid (by rfl) _ _ rfl _ _ rfl _ _ ?s16 ?u16 ?d16 ?i16) (by assumption) ?r16
  case s16 => (intro w' hSw; (try dsimp only at hSw); go_split_ands; assumption)
  case u16 => exact hu
  case d16 => rfl
  case i16 => exact hinf
  try simp only [Act.put, List.setIfInBounds_toArray, List.set_cons_zero, List.set_cons_succ]
  refine wpAnyH_take (i := 19) (oi := { dst := some 73, op := Op.binOp BinOp.neq 48 (Operand.tmp 71) (Operand.tmp 72) 48, type := 4, pos := "law.go:183", after := #[{ on := 17, ground := Ground.data }, { on := 18, ground := Ground.data }, { on := 13, ground := Ground.guard }], guard := some (13, false) }) (v := ?v17) rfl (by kernel_rfl) (by kernel_rfl) (by kernel_rfl) (fun _ _ _ h => h) (Or.inl ⟨by rfl, ?y17⟩) (by assumption) ?r17
  case y17 =>
    intro w' hSw
    try dsimp only at hSw
    go_simp
    try with_reducible rfl
  try simp only [Act.put, List.setIfInBounds_toArray, List.set_cons_zero, List.set_cons_succ]
  refine wpAnyH_take (i := 20) (oi := { dst := some 74, op := Op.pick (Operand.tmp 67) (Operand.const (Value.bool true)) (Operand.tmp 73), type := 4, pos := "law.go:183", after := #[{ on := 13, ground := Ground.data }, { on := 19, ground := Ground.data }], guard := none }) (v := ?v18) rfl (by kernel_rfl) (by kernel_rfl) (by kernel_rfl) (fun _ _ _ h => h) (Or.inl ⟨by rfl, ?y18⟩) (by assumption) ?r18
  case y18 =>
    intro w' hSw
    try dsimp only at hSw
    go_simp
    try with_reducible rfl
  try simp only [Act.put, List.setIfInBounds_toArray, List.set_cons_zero, List.set_cons_succ]
  refine wpAnyH_take (i := 21) (oi := { dst := some 75, op := Op.move (Operand.tmp 74), type := 4, pos := "law.go:183", after := #[{ on := 20, ground := Ground.data }, { on := 13, ground := Ground.chain }], guard := none }) (v := ?v19) rfl (by kernel_rfl) (by kernel_rfl) (by kernel_rfl) (fun _ _ _ h => h) (Or.inl ⟨by rfl, ?y19⟩) (by assumption) ?r19
  case y19 =>
    intro w' hSw
    try dsimp only at hSw
    go_simp
    try with_reducible rfl
  try simp only [Act.put, List.setIfInBounds_toArray, List.set_cons_zero, List.set_cons_succ]
  refine wpAnyH_take (i := 22) (oi := { dst := some 76, op := Op.move (Operand.tmp 11), type := 30, pos := "law.go:183", after := #[{ on := 21, ground := Ground.guard }], guard := some (21, false) }) (v := ?v20) rfl (by kernel_rfl) (by kernel_rfl) (by kernel_rfl) (fun _ _ _ h => h) (Or.inl ⟨by rfl, ?y20⟩) (by assumption) ?r20
  case y20 =>
    intro w' hSw
    try dsimp only at hSw
    go_simp
    try with_reducible rfl
  try simp only [Act.put, List.setIfInBounds_toArray, List.set_cons_zero, List.set_cons_succ]
  refine wpAnyH_take (i := 23) (oi := { dst := some 77, op := Op.nilCheck (Operand.tmp 76), type := 0, pos := "law.go:183", after := #[{ on := 22, ground := Ground.data }, { on := 21, ground := Ground.guard }], guard := some (21, false) }) (v := ?v21) rfl (by kernel_rfl) (by kernel_rfl) (by kernel_rfl) (fun _ _ _ h => h) (Or.inl ⟨by rfl, ?y21⟩) (by assumption) ?r21
  case y21 =>
    intro w' hSw
    try dsimp only at hSw
    go_simp
    try with_reducible rfl
  try simp only [Act.put, List.setIfInBounds_toArray, List.set_cons_zero, List.set_cons_succ]
  refine wpAnyH_take (i := 24) (oi := { dst := some 78, op := Op.fieldAddr 50 (Operand.tmp 77) 0, type := 0, pos := "law.go:183", after := #[{ on := 23, ground := Ground.data }, { on := 21, ground := Ground.guard }], guard := some (21, false) }) (v := ?v22) rfl (by kernel_rfl) (by kernel_rfl) (by kernel_rfl) (fun _ _ _ h => h) (Or.inl ⟨by rfl, ?y22⟩) (by assumption) ?r22
  case y22 =>
    intro w' hSw
    try dsimp only at hSw
    go_simp
    try with_reducible rfl
  try simp only [Act.put, List.setIfInBounds_toArray, List.set_cons_zero, List.set_cons_succ]
  refine wpAnyH_take (i := 25) (oi := { dst := some 79, op := Op.load 3 (Operand.tmp 78), type := 3, pos := "law.go:183", after := #[{ on := 24, ground := Ground.data }, { on := 21, ground := Ground.guard }], guard := some (21, false) }) (v := ?v23) rfl (by kernel_rfl) (by kernel_rfl) (by kernel_rfl) (fun _ _ _ h => h) (Or.inl ⟨by rfl, ?y23⟩) (by assumption) ?r23
  case y23 =>
    intro w' hSw
    try dsimp only at hSw
    go_simp
    try with_reducible rfl
  try simp only [Act.put, List.setIfInBounds_toArray, List.set_cons_zero, List.set_cons_succ]
  refine wpAnyH_take (i := 26) (oi := { dst := some 80, op := Op.binOp BinOp.neq 3 (Operand.tmp 79) (Operand.const (Value.int IntKind.i64 0)) 3, type := 4, pos := "law.go:183", after := #[{ on := 25, ground := Ground.data }, { on := 21, ground := Ground.guard }], guard := some (21, false) }) (v := ?v24) rfl (by kernel_rfl) (by kernel_rfl) (by kernel_rfl) (fun _ _ _ h => h) (Or.inl ⟨by rfl, ?y24⟩) (by assumption) ?r24
  case y24 =>
    intro w' hSw
    try dsimp only at hSw
    go_simp
    try with_reducible rfl
  try simp only [Act.put, List.setIfInBounds_toArray, List.set_cons_zero, List.set_cons_succ]
  refine wpAnyH_take (i := 27) (oi := { dst := some 81, op := Op.pick (Operand.tmp 75) (Operand.const (Value.bool true)) (Operand.tmp 80), type := 4, pos := "law.go:183", after := #[{ on := 21, ground := Ground.data }, { on := 26, ground := Ground.data }], guard := none }) (v := ?v25) rfl (by kernel_rfl) (by kernel_rfl) (by kernel_rfl) (fun _ _ _ h => h) (Or.inl ⟨by rfl, ?y25⟩) (by assumption) ?r25
  case y25 =>
    intro w' hSw
    try dsimp only at hSw
    go_simp
    try with_reducible rfl
  try simp only [Act.put, List.setIfInBounds_toArray, List.set_cons_zero, List.set_cons_succ]
  refine wpAnyH_done (by kernel_rfl) ?_ _
  have K8 := Lib.hid (K5.out.ext X8.out)
  have z8 := K8.out.fz
  have p8 := (K8.out.see RA.out).1
  clear KS5 X5 X6 X7 F6 F7 P5 K5 hHeld
  go_upto_region 13 with (first
      | (go_at_call 10
         refine (kept_v (ccap := 3) SP.out (KG.out 1) (by simp [keptL]) KR.out (K8.out.setPc SP.out 1)).mono ?_
         rintro e w9 ⟨v9, he9, hp9, hk9⟩
         rw [kept1] at he9 hp9 hk9
         subst he9
         obtain rfl : v9 = .nilIface := hp9
         have K9 := Lib.hid hk9
         clear hk9))
  clear z8 p8 K8
  have KS9 := Lib.hid (show ∀ W, Ext w9 W → (fun w' => w'.cell? ⟨f, 0, none⟩ = some (.int .i64 1) ∧ w'.rangeAt f 1 ra ∧ w'.rangeAt T 0 ra) W from fun W hx => (K9.out.ext hx).see RA.out)
  have X9 := Lib.hid (show Ext w9 w9.drew from (Below.refl _ _).drew)
  refine wp_region_held_drew (S := (fun w' => w'.cell? ⟨f, 0, none⟩ = some (.int .i64 1) ∧ w'.rangeAt f 1 ra ∧ w'.rangeAt T 0 ra)) (by kernel_rfl) (KS9.out _ X9.out) (fun hHeld => ?_)
  refine wpAnyH_take (i := 0) (oi := { dst := some 93, op := Op.move (Operand.tmp 16), type := 3, pos := "law.go:188", after := #[], guard := none }) (v := ?v26) rfl (by kernel_rfl) (by kernel_rfl) (by kernel_rfl) (fun _ _ _ h => h) (Or.inl ⟨by rfl, ?y26⟩) (by assumption) ?r26
  case y26 =>
    intro w' hSw
    try dsimp only at hSw
    go_simp
    try with_reducible rfl
  try simp only [Act.put, List.setIfInBounds_toArray, List.set_cons_zero, List.set_cons_succ]
  refine wpAnyH_take (i := 1) (oi := { dst := some 94, op := Op.binOp BinOp.neq 3 (Operand.tmp 93) (Operand.const (Value.int IntKind.i64 1)) 3, type := 4, pos := "law.go:188", after := #[{ on := 0, ground := Ground.data }], guard := none }) (v := ?v27) rfl (by kernel_rfl) (by kernel_rfl) (by kernel_rfl) (fun _ _ _ h => h) (Or.inl ⟨by rfl, ?y27⟩) (by assumption) ?r27
  case y27 =>
    intro w' hSw
    try dsimp only at hSw
    go_simp
    try with_reducible rfl
  try simp only [Act.put, List.setIfInBounds_toArray, List.set_cons_zero, List.set_cons_succ]
  refine wpAnyH_take (i := 2) (oi := { dst := some 95, op := Op.move (Operand.tmp 94), type := 4, pos := "law.go:188", after := #[{ on := 1, ground := Ground.data }], guard := none }) (v := ?v28) rfl (by kernel_rfl) (by kernel_rfl) (by kernel_rfl) (fun _ _ _ h => h) (Or.inl ⟨by rfl, ?y28⟩) (by assumption) ?r28
  case y28 =>
    intro w' hSw
    try dsimp only at hSw
    go_simp
    try with_reducible rfl
  try simp only [Act.put, List.setIfInBounds_toArray, List.set_cons_zero, List.set_cons_succ]
  refine wpAnyH_take (i := 3) (oi := { dst := some 96, op := Op.move (Operand.tmp 17), type := 37, pos := "law.go:188", after := #[{ on := 2, ground := Ground.guard }], guard := some (2, false) }) (v := ?v29) rfl (by kernel_rfl) (by kernel_rfl) (by kernel_rfl) (fun _ _ _ h => h) (Or.inl ⟨by rfl, ?y29⟩) (by assumption) ?r29
  case y29 =>
    intro w' hSw
    try dsimp only at hSw
    go_simp
    try with_reducible rfl
  try simp only [Act.put, List.setIfInBounds_toArray, List.set_cons_zero, List.set_cons_succ]
  refine wpAnyH_take (i := 4) (oi := { dst := some 97, op := Op.binOp BinOp.neq 37 (Operand.tmp 96) (Operand.const Value.nilIface) 37, type := 4, pos := "law.go:188", after := #[{ on := 3, ground := Ground.data }, { on := 2, ground := Ground.guard }], guard := some (2, false) }) (v := ?v30) rfl (by kernel_rfl) (by kernel_rfl) (by kernel_rfl) (fun _ _ _ h => h) (Or.inl ⟨by rfl, ?y30⟩) (by assumption) ?r30
  case y30 =>
    intro w' hSw
    try dsimp only at hSw
    go_simp
    try with_reducible rfl
  try simp only [Act.put, List.setIfInBounds_toArray, List.set_cons_zero, List.set_cons_succ]
  refine wpAnyH_take (i := 5) (oi := { dst := some 98, op := Op.pick (Operand.tmp 95) (Operand.const (Value.bool true)) (Operand.tmp 97), type := 4, pos := "law.go:188", after := #[{ on := 2, ground := Ground.data }, { on := 4, ground := Ground.data }], guard := none }) (v := ?v31) rfl (by kernel_rfl) (by kernel_rfl) (by kernel_rfl) (fun _ _ _ h => h) (Or.inl ⟨by rfl, ?y31⟩) (by assumption) ?r31
  case y31 =>
    intro w' hSw
    try dsimp only at hSw
    go_simp
    try with_reducible rfl
  try simp only [Act.put, List.setIfInBounds_toArray, List.set_cons_zero, List.set_cons_succ]
  refine wpAnyH_take (i := 6) (oi := { dst := some 99, op := Op.move (Operand.tmp 98), type := 4, pos := "law.go:188", after := #[{ on := 5, ground := Ground.data }, { on := 2, ground := Ground.chain }], guard := none }) (v := ?v32) rfl (by kernel_rfl) (by kernel_rfl) (by kernel_rfl) (fun _ _ _ h => h) (Or.inl ⟨by rfl, ?y32⟩) (by assumption) ?r32
  case y32 =>
    intro w' hSw
    try dsimp only at hSw
    go_simp
    try with_reducible rfl
  try simp only [Act.put, List.setIfInBounds_toArray, List.set_cons_zero, List.set_cons_succ]
  refine wpAnyH_take (i := 7) (oi := { dst := some 100, op := Op.move (Operand.tmp 11), type := 30, pos := "law.go:188", after := #[{ on := 6, ground := Ground.guard }], guard := some (6, false) }) (v := ?v33) rfl (by kernel_rfl) (by kernel_rfl) (by kernel_rfl) (fun _ _ _ h => h) (Or.inl ⟨by rfl, ?y33⟩) (by assumption) ?r33
  case y33 =>
    intro w' hSw
    try dsimp only at hSw
    go_simp
    try with_reducible rfl
  try simp only [Act.put, List.setIfInBounds_toArray, List.set_cons_zero, List.set_cons_succ]
  refine wpAnyH_take (i := 8) (oi := { dst := some 101, op := Op.nilCheck (Operand.tmp 100), type := 0, pos := "law.go:188", after := #[{ on := 7, ground := Ground.data }, { on := 6, ground := Ground.guard }], guard := some (6, false) }) (v := ?v34) rfl (by kernel_rfl) (by kernel_rfl) (by kernel_rfl) (fun _ _ _ h => h) (Or.inl ⟨by rfl, ?y34⟩) (by assumption) ?r34
  case y34 =>
    intro w' hSw
    try dsimp only at hSw
    go_simp
    try with_reducible rfl
  try simp only [Act.put, List.setIfInBounds_toArray, List.set_cons_zero, List.set_cons_succ]
  refine wpAnyH_take (i := 9) (oi := { dst := some 102, op := Op.fieldAddr 50 (Operand.tmp 101) 1, type := 0, pos := "law.go:188", after := #[{ on := 8, ground := Ground.data }, { on := 6, ground := Ground.guard }], guard := some (6, false) }) (v := ?v35) rfl (by kernel_rfl) (by kernel_rfl) (by kernel_rfl) (fun _ _ _ h => h) (Or.inl ⟨by rfl, ?y35⟩) (by assumption) ?r35
  case y35 =>
    intro w' hSw
    try dsimp only at hSw
    go_simp
    try with_reducible rfl
  try simp only [Act.put, List.setIfInBounds_toArray, List.set_cons_zero, List.set_cons_succ]
  refine' wpAnyH_take (i := 10) (oi := { dst := some 103, op := Op.load 48 (Operand.tmp 102), type := 48, pos := "law.go:188", after := #[{ on := 9, ground := Ground.data }, { on := 6, ground := Ground.guard }], guard := some (6, false) }) (v := _) rfl (by kernel_rfl) (by kernel_rfl) (by kernel_rfl) (fun _ _ _ h => h) (yieldsIf_load_mid (by rfl) _ _ rfl _ _ rfl _ _ ?s36 ?u36 ?d36 ?i36) (by assumption) ?r36
  case s36 => (intro w' hSw; (try dsimp only at hSw); go_split_ands; assumption)
  case u36 => exact hu
  case d36 => rfl
  case i36 => exact hinf
  try simp only [Act.put, List.setIfInBounds_toArray, List.set_cons_zero, List.set_cons_succ]
  refine' wpAnyH_take (i := 11) (oi := { dst := some 104, op := Op.load 48 (Operand.tmp 13), type := 48, pos := "law.go:188", after := #[{ on := 6, ground := Ground.guard }], guard := some (6, false) }) (v := _) rfl (by kernel_rfl) (by kernel_rfl) (by kernel_rfl) (fun _ _ _ h => h) (yieldsIf_load_mid (by rfl) _ _ rfl _ _ rfl _ _ ?s37 ?u37 ?d37 ?i37) (by assumption) ?r37
  case s37 => (intro w' hSw; (try dsimp only at hSw); go_split_ands; assumption)
  case u37 => exact hu
  case d37 => rfl
  case i37 => exact hinf
  try simp only [Act.put, List.setIfInBounds_toArray, List.set_cons_zero, List.set_cons_succ]
  refine wpAnyH_take (i := 12) (oi := { dst := some 105, op := Op.binOp BinOp.neq 48 (Operand.tmp 103) (Operand.tmp 104) 48, type := 4, pos := "law.go:188", after := #[{ on := 10, ground := Ground.data }, { on := 11, ground := Ground.data }, { on := 6, ground := Ground.guard }], guard := some (6, false) }) (v := ?v38) rfl (by kernel_rfl) (by kernel_rfl) (by kernel_rfl) (fun _ _ _ h => h) (Or.inl ⟨by rfl, ?y38⟩) (by assumption) ?r38
  case y38 =>
    intro w' hSw
    try dsimp only at hSw
    go_simp
    try with_reducible rfl
  try simp only [Act.put, List.setIfInBounds_toArray, List.set_cons_zero, List.set_cons_succ]
  refine wpAnyH_take (i := 13) (oi := { dst := some 106, op := Op.pick (Operand.tmp 99) (Operand.const (Value.bool true)) (Operand.tmp 105), type := 4, pos := "law.go:188", after := #[{ on := 6, ground := Ground.data }, { on := 12, ground := Ground.data }], guard := none }) (v := ?v39) rfl (by kernel_rfl) (by kernel_rfl) (by kernel_rfl) (fun _ _ _ h => h) (Or.inl ⟨by rfl, ?y39⟩) (by assumption) ?r39
  case y39 =>
    intro w' hSw
    try dsimp only at hSw
    go_simp
    try with_reducible rfl
  try simp only [Act.put, List.setIfInBounds_toArray, List.set_cons_zero, List.set_cons_succ]
  refine wpAnyH_take (i := 14) (oi := { dst := some 107, op := Op.move (Operand.tmp 106), type := 4, pos := "law.go:188", after := #[{ on := 13, ground := Ground.data }, { on := 6, ground := Ground.chain }], guard := none }) (v := ?v40) rfl (by kernel_rfl) (by kernel_rfl) (by kernel_rfl) (fun _ _ _ h => h) (Or.inl ⟨by rfl, ?y40⟩) (by assumption) ?r40
  case y40 =>
    intro w' hSw
    try dsimp only at hSw
    go_simp
    try with_reducible rfl
  try simp only [Act.put, List.setIfInBounds_toArray, List.set_cons_zero, List.set_cons_succ]
  refine wpAnyH_take (i := 15) (oi := { dst := some 108, op := Op.move (Operand.tmp 11), type := 30, pos := "law.go:188", after := #[{ on := 14, ground := Ground.guard }], guard := some (14, false) }) (v := ?v41) rfl (by kernel_rfl) (by kernel_rfl) (by kernel_rfl) (fun _ _ _ h => h) (Or.inl ⟨by rfl, ?y41⟩) (by assumption) ?r41
  case y41 =>
    intro w' hSw
    try dsimp only at hSw
    go_simp
    try with_reducible rfl
  try simp only [Act.put, List.setIfInBounds_toArray, List.set_cons_zero, List.set_cons_succ]
  refine wpAnyH_take (i := 16) (oi := { dst := some 109, op := Op.nilCheck (Operand.tmp 108), type := 0, pos := "law.go:188", after := #[{ on := 15, ground := Ground.data }, { on := 14, ground := Ground.guard }], guard := some (14, false) }) (v := ?v42) rfl (by kernel_rfl) (by kernel_rfl) (by kernel_rfl) (fun _ _ _ h => h) (Or.inl ⟨by rfl, ?y42⟩) (by assumption) ?r42
  case y42 =>
    intro w' hSw
    try dsimp only at hSw
    go_simp
    try with_reducible rfl
  try simp only [Act.put, List.setIfInBounds_toArray, List.set_cons_zero, List.set_cons_succ]
  refine wpAnyH_take (i := 17) (oi := { dst := some 110, op := Op.fieldAddr 50 (Operand.tmp 109) 0, type := 0, pos := "law.go:188", after := #[{ on := 16, ground := Ground.data }, { on := 14, ground := Ground.guard }], guard := some (14, false) }) (v := ?v43) rfl (by kernel_rfl) (by kernel_rfl) (by kernel_rfl) (fun _ _ _ h => h) (Or.inl ⟨by rfl, ?y43⟩) (by assumption) ?r43
  case y43 =>
    intro w' hSw
    try dsimp only at hSw
    go_simp
    try with_reducible rfl
  try simp only [Act.put, List.setIfInBounds_toArray, List.set_cons_zero, List.set_cons_succ]
  refine wpAnyH_take (i := 18) (oi := { dst := some 111, op := Op.load 3 (Operand.tmp 110), type := 3, pos := "law.go:188", after := #[{ on := 17, ground := Ground.data }, { on := 14, ground := Ground.guard }], guard := some (14, false) }) (v := ?v44) rfl (by kernel_rfl) (by kernel_rfl) (by kernel_rfl) (fun _ _ _ h => h) (Or.inl ⟨by rfl, ?y44⟩) (by assumption) ?r44
  case y44 =>
    intro w' hSw
    try dsimp only at hSw
    go_simp
    try with_reducible rfl
  try simp only [Act.put, List.setIfInBounds_toArray, List.set_cons_zero, List.set_cons_succ]
  refine wpAnyH_take (i := 19) (oi := { dst := some 112, op := Op.binOp BinOp.neq 3 (Operand.tmp 111) (Operand.const (Value.int IntKind.i64 1)) 3, type := 4, pos := "law.go:188", after := #[{ on := 18, ground := Ground.data }, { on := 14, ground := Ground.guard }], guard := some (14, false) }) (v := ?v45) rfl (by kernel_rfl) (by kernel_rfl) (by kernel_rfl) (fun _ _ _ h => h) (Or.inl ⟨by rfl, ?y45⟩) (by assumption) ?r45
  case y45 =>
    intro w' hSw
    try dsimp only at hSw
    go_simp
    try with_reducible rfl
  try simp only [Act.put, List.setIfInBounds_toArray, List.set_cons_zero, List.set_cons_succ]
  refine wpAnyH_take (i := 20) (oi := { dst := some 113, op := Op.pick (Operand.tmp 107) (Operand.const (Value.bool true)) (Operand.tmp 112), type := 4, pos := "law.go:188", after := #[{ on := 14, ground := Ground.data }, { on := 19, ground := Ground.data }], guard := none }) (v := ?v46) rfl (by kernel_rfl) (by kernel_rfl) (by kernel_rfl) (fun _ _ _ h => h) (Or.inl ⟨by rfl, ?y46⟩) (by assumption) ?r46
  case y46 =>
    intro w' hSw
    try dsimp only at hSw
    go_simp
    try with_reducible rfl
  try simp only [Act.put, List.setIfInBounds_toArray, List.set_cons_zero, List.set_cons_succ]
  refine wpAnyH_done (by kernel_rfl) ?_ _
  have K10 := Lib.hid (K9.out.ext X9.out)
  have z10 := K9.out.fz
  have p10 := (K9.out.see RA.out).1
  clear KS9 X9 K9 hHeld
  go_upto_region 18 with (first
      | (go_at_call 9; refine (CW2.out _).mono ?_; rintro e w11 ⟨rfl, rfl⟩)
      | (go_at_call 10
         refine (kept_v (ccap := 3) SP.out (KG.out (3 + q2)) (by simp [keptL]) KR.out (K10.out.setPc SP.out (3 + q2))).mono ?_
         rintro e w12 ⟨v12, he12, hp12, hk12⟩
         rw [kept3 (by omega)] at he12 hp12 hk12
         subst he12
         obtain rfl : v12 = .nilIface := hp12
         have K12 := Lib.hid hk12
         clear hk12))
  clear z10 p10 K10
  obtain ⟨A2, cap2, hF2, hB2, _, _⟩ := K12.out.hF
  have B2 := Lib.hid (show BackIs w12 A2 [4, 5] from hB2)
  have bk2 : w12.cell? ⟨f, 33, none⟩ = some (.slice A2 2 cap2) := by have h := hF2.back; simpa [keptS] using h
  have BK2 := Lib.hid bk2
  have lf2 := hF2.lt
  have KS12 := Lib.hid (show ∀ W, Ext w12 W → (fun w' => w'.cell? ⟨f, 0, none⟩ = some (.int .i64 (3 + q2)) ∧ w'.rangeAt f 1 ra ∧ w'.rangeAt T 0 ra ∧ w'.cell? ⟨f, 33, none⟩ = some (.slice A2 2 cap2)) W from fun W hx => by obtain ⟨h1, h2, h3⟩ := (K12.out.ext hx).see RA.out; exact ⟨h1, h2, h3, (hx.cell (p := ⟨f, 33, none⟩) lf2).trans BK2.out⟩)
  have X12 := Lib.hid (show Ext w12 w12.drew from (Below.refl _ _).drew)
  clear hF2 hB2 bk2
  refine wp_region_held_drew (S := (fun w' => w'.cell? ⟨f, 0, none⟩ = some (.int .i64 (3 + q2)) ∧ w'.rangeAt f 1 ra ∧ w'.rangeAt T 0 ra ∧ w'.cell? ⟨f, 33, none⟩ = some (.slice A2 2 cap2))) (by kernel_rfl) (KS12.out _ X12.out) (fun hHeld => ?_)
  refine wpAnyH_take (i := 0) (oi := { dst := some 132, op := Op.move (Operand.tmp 16), type := 3, pos := "law.go:194", after := #[], guard := none }) (v := ?v47) rfl (by kernel_rfl) (by kernel_rfl) (by kernel_rfl) (fun _ _ _ h => h) (Or.inl ⟨by rfl, ?y47⟩) (by assumption) ?r47
  case y47 =>
    intro w' hSw
    try dsimp only at hSw
    go_simp
    try with_reducible rfl
  try simp only [Act.put, List.setIfInBounds_toArray, List.set_cons_zero, List.set_cons_succ]
  refine wpAnyH_take (i := 1) (oi := { dst := some 133, op := Op.binOp BinOp.neq 3 (Operand.tmp 132) (Operand.const (Value.int IntKind.i64 3)) 3, type := 4, pos := "law.go:194", after := #[{ on := 0, ground := Ground.data }], guard := none }) (v := ?v48) rfl (by kernel_rfl) (by kernel_rfl) (by kernel_rfl) (fun _ _ _ h => h) (Or.inl ⟨by rfl, ?y48⟩) (by assumption) ?r48
  case y48 =>
    intro w' hSw
    try dsimp only at hSw
    go_simp
    try with_reducible rfl
  try simp only [Act.put, List.setIfInBounds_toArray, List.set_cons_zero, List.set_cons_succ]
  refine wpAnyH_take (i := 2) (oi := { dst := some 134, op := Op.move (Operand.tmp 133), type := 4, pos := "law.go:194", after := #[{ on := 1, ground := Ground.data }], guard := none }) (v := ?v49) rfl (by kernel_rfl) (by kernel_rfl) (by kernel_rfl) (fun _ _ _ h => h) (Or.inl ⟨by rfl, ?y49⟩) (by assumption) ?r49
  case y49 =>
    intro w' hSw
    try dsimp only at hSw
    go_simp
    try with_reducible rfl
  try simp only [Act.put, List.setIfInBounds_toArray, List.set_cons_zero, List.set_cons_succ]
  refine wpAnyH_take (i := 3) (oi := { dst := some 135, op := Op.move (Operand.tmp 17), type := 37, pos := "law.go:194", after := #[{ on := 2, ground := Ground.guard }], guard := some (2, false) }) (v := ?v50) rfl (by kernel_rfl) (by kernel_rfl) (by kernel_rfl) (fun _ _ _ h => h) (Or.inl ⟨by rfl, ?y50⟩) (by assumption) ?r50
  case y50 =>
    intro w' hSw
    try dsimp only at hSw
    go_simp
    try with_reducible rfl
  try simp only [Act.put, List.setIfInBounds_toArray, List.set_cons_zero, List.set_cons_succ]
  refine wpAnyH_take (i := 4) (oi := { dst := some 136, op := Op.binOp BinOp.neq 37 (Operand.tmp 135) (Operand.const Value.nilIface) 37, type := 4, pos := "law.go:194", after := #[{ on := 3, ground := Ground.data }, { on := 2, ground := Ground.guard }], guard := some (2, false) }) (v := ?v51) rfl (by kernel_rfl) (by kernel_rfl) (by kernel_rfl) (fun _ _ _ h => h) (Or.inl ⟨by rfl, ?y51⟩) (by assumption) ?r51
  case y51 =>
    intro w' hSw
    try dsimp only at hSw
    go_simp
    try with_reducible rfl
  try simp only [Act.put, List.setIfInBounds_toArray, List.set_cons_zero, List.set_cons_succ]
  refine wpAnyH_take (i := 5) (oi := { dst := some 137, op := Op.pick (Operand.tmp 134) (Operand.const (Value.bool true)) (Operand.tmp 136), type := 4, pos := "law.go:194", after := #[{ on := 2, ground := Ground.data }, { on := 4, ground := Ground.data }], guard := none }) (v := ?v52) rfl (by kernel_rfl) (by kernel_rfl) (by kernel_rfl) (fun _ _ _ h => h) (Or.inl ⟨by rfl, ?y52⟩) (by assumption) ?r52
  case y52 =>
    intro w' hSw
    try dsimp only at hSw
    go_simp
    try with_reducible rfl
  try simp only [Act.put, List.setIfInBounds_toArray, List.set_cons_zero, List.set_cons_succ]
  refine wpAnyH_take (i := 6) (oi := { dst := some 138, op := Op.move (Operand.tmp 137), type := 4, pos := "law.go:194", after := #[{ on := 5, ground := Ground.data }, { on := 2, ground := Ground.chain }], guard := none }) (v := ?v53) rfl (by kernel_rfl) (by kernel_rfl) (by kernel_rfl) (fun _ _ _ h => h) (Or.inl ⟨by rfl, ?y53⟩) (by assumption) ?r53
  case y53 =>
    intro w' hSw
    try dsimp only at hSw
    go_simp
    try with_reducible rfl
  try simp only [Act.put, List.setIfInBounds_toArray, List.set_cons_zero, List.set_cons_succ]
  refine wpAnyH_take (i := 7) (oi := { dst := some 139, op := Op.move (Operand.tmp 11), type := 30, pos := "law.go:194", after := #[{ on := 6, ground := Ground.guard }], guard := some (6, false) }) (v := ?v54) rfl (by kernel_rfl) (by kernel_rfl) (by kernel_rfl) (fun _ _ _ h => h) (Or.inl ⟨by rfl, ?y54⟩) (by assumption) ?r54
  case y54 =>
    intro w' hSw
    try dsimp only at hSw
    go_simp
    try with_reducible rfl
  try simp only [Act.put, List.setIfInBounds_toArray, List.set_cons_zero, List.set_cons_succ]
  refine wpAnyH_take (i := 8) (oi := { dst := some 140, op := Op.nilCheck (Operand.tmp 139), type := 0, pos := "law.go:194", after := #[{ on := 7, ground := Ground.data }, { on := 6, ground := Ground.guard }], guard := some (6, false) }) (v := ?v55) rfl (by kernel_rfl) (by kernel_rfl) (by kernel_rfl) (fun _ _ _ h => h) (Or.inl ⟨by rfl, ?y55⟩) (by assumption) ?r55
  case y55 =>
    intro w' hSw
    try dsimp only at hSw
    go_simp
    try with_reducible rfl
  try simp only [Act.put, List.setIfInBounds_toArray, List.set_cons_zero, List.set_cons_succ]
  refine wpAnyH_take (i := 9) (oi := { dst := some 141, op := Op.fieldAddr 50 (Operand.tmp 140) 1, type := 0, pos := "law.go:194", after := #[{ on := 8, ground := Ground.data }, { on := 6, ground := Ground.guard }], guard := some (6, false) }) (v := ?v56) rfl (by kernel_rfl) (by kernel_rfl) (by kernel_rfl) (fun _ _ _ h => h) (Or.inl ⟨by rfl, ?y56⟩) (by assumption) ?r56
  case y56 =>
    intro w' hSw
    try dsimp only at hSw
    go_simp
    try with_reducible rfl
  try simp only [Act.put, List.setIfInBounds_toArray, List.set_cons_zero, List.set_cons_succ]
  refine' wpAnyH_take (i := 10) (oi := { dst := some 142, op := Op.load 48 (Operand.tmp 141), type := 48, pos := "law.go:194", after := #[{ on := 9, ground := Ground.data }, { on := 6, ground := Ground.guard }], guard := some (6, false) }) (v := _) rfl (by kernel_rfl) (by kernel_rfl) (by kernel_rfl) (fun _ _ _ h => h) (yieldsIf_load_mid (by rfl) _ _ rfl _ _ rfl _ _ ?s57 ?u57 ?d57 ?i57) (by assumption) ?r57
  case s57 => (intro w' hSw; (try dsimp only at hSw); go_split_ands; assumption)
  case u57 => exact hu
  case d57 => rfl
  case i57 => exact hinf
  try simp only [Act.put, List.setIfInBounds_toArray, List.set_cons_zero, List.set_cons_succ]
  refine' wpAnyH_take (i := 11) (oi := { dst := some 143, op := Op.load 48 (Operand.tmp 13), type := 48, pos := "law.go:194", after := #[{ on := 6, ground := Ground.guard }], guard := some (6, false) }) (v := _) rfl (by kernel_rfl) (by kernel_rfl) (by kernel_rfl) (fun _ _ _ h => h) (yieldsIf_load_mid (by rfl) _ _ rfl _ _ rfl _ _ ?s58 ?u58 ?d58 ?i58) (by assumption) ?r58
  case s58 => (intro w' hSw; (try dsimp only at hSw); go_split_ands; assumption)
  case u58 => exact hu
  case d58 => rfl
  case i58 => exact hinf
  try simp only [Act.put, List.setIfInBounds_toArray, List.set_cons_zero, List.set_cons_succ]
  refine wpAnyH_take (i := 12) (oi := { dst := some 144, op := Op.binOp BinOp.neq 48 (Operand.tmp 142) (Operand.tmp 143) 48, type := 4, pos := "law.go:194", after := #[{ on := 10, ground := Ground.data }, { on := 11, ground := Ground.data }, { on := 6, ground := Ground.guard }], guard := some (6, false) }) (v := ?v59) rfl (by kernel_rfl) (by kernel_rfl) (by kernel_rfl) (fun _ _ _ h => h) (Or.inl ⟨by rfl, ?y59⟩) (by assumption) ?r59
  case y59 =>
    intro w' hSw
    try dsimp only at hSw
    go_simp
    try with_reducible rfl
  try simp only [Act.put, List.setIfInBounds_toArray, List.set_cons_zero, List.set_cons_succ]
  refine wpAnyH_take (i := 13) (oi := { dst := some 145, op := Op.pick (Operand.tmp 138) (Operand.const (Value.bool true)) (Operand.tmp 144), type := 4, pos := "law.go:194", after := #[{ on := 6, ground := Ground.data }, { on := 12, ground := Ground.data }], guard := none }) (v := ?v60) rfl (by kernel_rfl) (by kernel_rfl) (by kernel_rfl) (fun _ _ _ h => h) (Or.inl ⟨by rfl, ?y60⟩) (by assumption) ?r60
  case y60 =>
    intro w' hSw
    try dsimp only at hSw
    go_simp
    try with_reducible rfl
  try simp only [Act.put, List.setIfInBounds_toArray, List.set_cons_zero, List.set_cons_succ]
  refine wpAnyH_take (i := 14) (oi := { dst := some 146, op := Op.move (Operand.tmp 145), type := 4, pos := "law.go:194", after := #[{ on := 13, ground := Ground.data }, { on := 6, ground := Ground.chain }], guard := none }) (v := ?v61) rfl (by kernel_rfl) (by kernel_rfl) (by kernel_rfl) (fun _ _ _ h => h) (Or.inl ⟨by rfl, ?y61⟩) (by assumption) ?r61
  case y61 =>
    intro w' hSw
    try dsimp only at hSw
    go_simp
    try with_reducible rfl
  try simp only [Act.put, List.setIfInBounds_toArray, List.set_cons_zero, List.set_cons_succ]
  refine wpAnyH_take (i := 15) (oi := { dst := some 147, op := Op.move (Operand.tmp 11), type := 30, pos := "law.go:194", after := #[{ on := 14, ground := Ground.guard }], guard := some (14, false) }) (v := ?v62) rfl (by kernel_rfl) (by kernel_rfl) (by kernel_rfl) (fun _ _ _ h => h) (Or.inl ⟨by rfl, ?y62⟩) (by assumption) ?r62
  case y62 =>
    intro w' hSw
    try dsimp only at hSw
    go_simp
    try with_reducible rfl
  try simp only [Act.put, List.setIfInBounds_toArray, List.set_cons_zero, List.set_cons_succ]
  refine wpAnyH_take (i := 16) (oi := { dst := some 148, op := Op.nilCheck (Operand.tmp 147), type := 0, pos := "law.go:194", after := #[{ on := 15, ground := Ground.data }, { on := 14, ground := Ground.guard }], guard := some (14, false) }) (v := ?v63) rfl (by kernel_rfl) (by kernel_rfl) (by kernel_rfl) (fun _ _ _ h => h) (Or.inl ⟨by rfl, ?y63⟩) (by assumption) ?r63
  case y63 =>
    intro w' hSw
    try dsimp only at hSw
    go_simp
    try with_reducible rfl
  try simp only [Act.put, List.setIfInBounds_toArray, List.set_cons_zero, List.set_cons_succ]
  refine wpAnyH_take (i := 17) (oi := { dst := some 149, op := Op.fieldAddr 50 (Operand.tmp 148) 0, type := 0, pos := "law.go:194", after := #[{ on := 16, ground := Ground.data }, { on := 14, ground := Ground.guard }], guard := some (14, false) }) (v := ?v64) rfl (by kernel_rfl) (by kernel_rfl) (by kernel_rfl) (fun _ _ _ h => h) (Or.inl ⟨by rfl, ?y64⟩) (by assumption) ?r64
  case y64 =>
    intro w' hSw
    try dsimp only at hSw
    go_simp
    try with_reducible rfl
  try simp only [Act.put, List.setIfInBounds_toArray, List.set_cons_zero, List.set_cons_succ]
  refine wpAnyH_take (i := 18) (oi := { dst := some 150, op := Op.load 3 (Operand.tmp 149), type := 3, pos := "law.go:194", after := #[{ on := 17, ground := Ground.data }, { on := 14, ground := Ground.guard }], guard := some (14, false) }) (v := ?v65) rfl (by kernel_rfl) (by kernel_rfl) (by kernel_rfl) (fun _ _ _ h => h) (Or.inl ⟨by rfl, ?y65⟩) (by assumption) ?r65
  case y65 =>
    intro w' hSw
    try dsimp only at hSw
    go_simp
    try with_reducible rfl
  try simp only [Act.put, List.setIfInBounds_toArray, List.set_cons_zero, List.set_cons_succ]
  refine wpAnyH_take (i := 19) (oi := { dst := some 151, op := Op.move (Operand.tmp 18), type := 3, pos := "law.go:194", after := #[{ on := 14, ground := Ground.guard }], guard := some (14, false) }) (v := ?v66) rfl (by kernel_rfl) (by kernel_rfl) (by kernel_rfl) (fun _ _ _ h => h) (Or.inl ⟨by rfl, ?y66⟩) (by assumption) ?r66
  case y66 =>
    intro w' hSw
    try dsimp only at hSw
    go_simp
    try with_reducible rfl
  try simp only [Act.put, List.setIfInBounds_toArray, List.set_cons_zero, List.set_cons_succ]
  refine wpAnyH_take (i := 20) (oi := { dst := some 152, op := Op.binOp BinOp.neq 3 (Operand.tmp 150) (Operand.tmp 151) 3, type := 4, pos := "law.go:194", after := #[{ on := 18, ground := Ground.data }, { on := 19, ground := Ground.data }, { on := 14, ground := Ground.guard }], guard := some (14, false) }) (v := ?v67) rfl (by kernel_rfl) (by kernel_rfl) (by kernel_rfl) (fun _ _ _ h => h) (Or.inl ⟨by rfl, ?y67⟩) (by assumption) ?r67
  case y67 =>
    intro w' hSw
    try dsimp only at hSw
    go_simp
    try with_reducible rfl
  try simp only [Act.put, List.setIfInBounds_toArray, List.set_cons_zero, List.set_cons_succ]
  refine wpAnyH_take (i := 21) (oi := { dst := some 153, op := Op.pick (Operand.tmp 146) (Operand.const (Value.bool true)) (Operand.tmp 152), type := 4, pos := "law.go:194", after := #[{ on := 14, ground := Ground.data }, { on := 20, ground := Ground.data }], guard := none }) (v := ?v68) rfl (by kernel_rfl) (by kernel_rfl) (by kernel_rfl) (fun _ _ _ h => h) (Or.inl ⟨by rfl, ?y68⟩) (by assumption) ?r68
  case y68 =>
    intro w' hSw
    try dsimp only at hSw
    go_simp
    try with_reducible rfl
  try simp only [Act.put, List.setIfInBounds_toArray, List.set_cons_zero, List.set_cons_succ]
  refine wpAnyH_take (i := 22) (oi := { dst := some 154, op := Op.move (Operand.tmp 153), type := 4, pos := "law.go:194", after := #[{ on := 21, ground := Ground.data }, { on := 14, ground := Ground.chain }], guard := none }) (v := ?v69) rfl (by kernel_rfl) (by kernel_rfl) (by kernel_rfl) (fun _ _ _ h => h) (Or.inl ⟨by rfl, ?y69⟩) (by assumption) ?r69
  case y69 =>
    intro w' hSw
    try dsimp only at hSw
    go_simp
    try with_reducible rfl
  try simp only [Act.put, List.setIfInBounds_toArray, List.set_cons_zero, List.set_cons_succ]
  refine wpAnyH_take (i := 23) (oi := { dst := some 155, op := Op.move (Operand.tmp 11), type := 30, pos := "law.go:194", after := #[{ on := 22, ground := Ground.guard }], guard := some (22, false) }) (v := ?v70) rfl (by kernel_rfl) (by kernel_rfl) (by kernel_rfl) (fun _ _ _ h => h) (Or.inl ⟨by rfl, ?y70⟩) (by assumption) ?r70
  case y70 =>
    intro w' hSw
    try dsimp only at hSw
    go_simp
    try with_reducible rfl
  try simp only [Act.put, List.setIfInBounds_toArray, List.set_cons_zero, List.set_cons_succ]
  refine wpAnyH_take (i := 24) (oi := { dst := some 156, op := Op.nilCheck (Operand.tmp 155), type := 0, pos := "law.go:194", after := #[{ on := 23, ground := Ground.data }, { on := 22, ground := Ground.guard }], guard := some (22, false) }) (v := ?v71) rfl (by kernel_rfl) (by kernel_rfl) (by kernel_rfl) (fun _ _ _ h => h) (Or.inl ⟨by rfl, ?y71⟩) (by assumption) ?r71
  case y71 =>
    intro w' hSw
    try dsimp only at hSw
    go_simp
    try with_reducible rfl
  try simp only [Act.put, List.setIfInBounds_toArray, List.set_cons_zero, List.set_cons_succ]
  refine wpAnyH_take (i := 25) (oi := { dst := some 157, op := Op.fieldAddr 50 (Operand.tmp 156) 2, type := 0, pos := "law.go:194", after := #[{ on := 24, ground := Ground.data }, { on := 22, ground := Ground.guard }], guard := some (22, false) }) (v := ?v72) rfl (by kernel_rfl) (by kernel_rfl) (by kernel_rfl) (fun _ _ _ h => h) (Or.inl ⟨by rfl, ?y72⟩) (by assumption) ?r72
  case y72 =>
    intro w' hSw
    try dsimp only at hSw
    go_simp
    try with_reducible rfl
  try simp only [Act.put, List.setIfInBounds_toArray, List.set_cons_zero, List.set_cons_succ]
  refine wpAnyH_take (i := 26) (oi := { dst := some 158, op := Op.load 24 (Operand.tmp 157), type := 24, pos := "law.go:194", after := #[{ on := 25, ground := Ground.data }, { on := 22, ground := Ground.guard }], guard := some (22, false) }) (v := ?v73) rfl (by kernel_rfl) (by kernel_rfl) (by kernel_rfl) (fun _ _ _ h => h) (Or.inl ⟨by rfl, ?y73⟩) (by assumption) ?r73
  case y73 =>
    intro w' hSw
    try dsimp only at hSw
    go_simp
    try with_reducible rfl
  try simp only [Act.put, List.setIfInBounds_toArray, List.set_cons_zero, List.set_cons_succ]
  refine wpAnyH_ready (rs := [27]) (by kernel_rfl) (by simp) ?_
  refine AllReadyH.cons (o := { dst := some 159, op := Op.buildSlice 24 2 #[(0, Operand.const (Value.int IntKind.i64 4)), (1, Operand.const (Value.int IntKind.i64 5))], type := 24, pos := "law.go:194", after := #[{ on := 22, ground := Ground.guard }], guard := some (22, false) }) rfl (fun K hK => ?_) AllReadyH.nil
  go_simp
  have X13 := Lib.hid (X12.out.alloc X12.out.size (.cells #[.int .i64 4, .int .i64 5] 3))
  try go_wp2_with fail
  refine hK.out _ _ (KS12.out _ X13.out) (fun hHeld => ?_)
  clear hK K
  try simp only [Act.put, List.setIfInBounds_toArray, List.set_cons_zero, List.set_cons_succ]
  refine wpAnyH_ready (rs := [28]) (by kernel_rfl) (by simp) ?_
  refine AllReadyH.cons (o := { dst := some 160, op := Op.call { callee := Callee.value (Operand.func 17), args := #[Operand.tmp 158, Operand.tmp 159], argTypes := #[24, 24] }, type := 4, pos := "law.go:194", after := #[{ on := 26, ground := Ground.data }, { on := 27, ground := Ground.data }, { on := 22, ground := Ground.chain }, { on := 22, ground := Ground.guard }], guard := some (22, false) }) rfl (fun K hK => ?_) AllReadyH.nil
  go_simp
  go_at_call 17
  refine ((ints_any A2 (some ⟨w12.heap.size, 0, none⟩) cap2 2 [4, 5] (by simp) _ (B2.out.ext X13.out) (back45 w12.drew)).mono (fun e w' h => (⟨h.1, by obtain ⟨n, rfl⟩ := h.2; exact drewN_ext _ n⟩ : e = .returned (.bool true) ∧ Ext _ w'))).mono ?_
  rintro e w14 ⟨rfl, hx14⟩
  have X14 := Lib.hid (X13.out.trans (hx14.mono X13.out.size))
  clear hx14
  try go_wp2_with fail
  refine hK.out _ _ (KS12.out _ X14.out) (fun hHeld => ?_)
  clear hK K
  try simp only [Act.put, List.setIfInBounds_toArray, List.set_cons_zero, List.set_cons_succ]
  refine wpAnyH_take (i := 29) (oi := { dst := some 161, op := Op.unOp UnOp.not 4 (Operand.tmp 160), type := 4, pos := "law.go:194", after := #[{ on := 28, ground := Ground.data }, { on := 22, ground := Ground.guard }], guard := some (22, false) }) (v := ?v74) rfl (by kernel_rfl) (by kernel_rfl) (by kernel_rfl) (fun _ _ _ h => h) (Or.inl ⟨by rfl, ?y74⟩) (by assumption) ?r74
  case y74 =>
    intro w' hSw
    try dsimp only at hSw
    go_simp
    try with_reducible rfl
  try simp only [Act.put, List.setIfInBounds_toArray, List.set_cons_zero, List.set_cons_succ]
  refine wpAnyH_take (i := 30) (oi := { dst := some 162, op := Op.pick (Operand.tmp 154) (Operand.const (Value.bool true)) (Operand.tmp 161), type := 4, pos := "law.go:194", after := #[{ on := 22, ground := Ground.data }, { on := 29, ground := Ground.data }], guard := none }) (v := ?v75) rfl (by kernel_rfl) (by kernel_rfl) (by kernel_rfl) (fun _ _ _ h => h) (Or.inl ⟨by rfl, ?y75⟩) (by assumption) ?r75
  case y75 =>
    intro w' hSw
    try dsimp only at hSw
    go_simp
    try with_reducible rfl
  try simp only [Act.put, List.setIfInBounds_toArray, List.set_cons_zero, List.set_cons_succ]
  refine wpAnyH_take (i := 31) (oi := { dst := some 163, op := Op.move (Operand.tmp 162), type := 4, pos := "law.go:194", after := #[{ on := 30, ground := Ground.data }, { on := 28, ground := Ground.chain }], guard := none }) (v := ?v76) rfl (by kernel_rfl) (by kernel_rfl) (by kernel_rfl) (fun _ _ _ h => h) (Or.inl ⟨by rfl, ?y76⟩) (by assumption) ?r76
  case y76 =>
    intro w' hSw
    try dsimp only at hSw
    go_simp
    try with_reducible rfl
  try simp only [Act.put, List.setIfInBounds_toArray, List.set_cons_zero, List.set_cons_succ]
  refine wpAnyH_take (i := 32) (oi := { dst := some 164, op := Op.move (Operand.tmp 9), type := 25, pos := "law.go:194", after := #[{ on := 31, ground := Ground.guard }], guard := some (31, false) }) (v := ?v77) rfl (by kernel_rfl) (by kernel_rfl) (by kernel_rfl) (fun _ _ _ h => h) (Or.inl ⟨by rfl, ?y77⟩) (by assumption) ?r77
  case y77 =>
    intro w' hSw
    try dsimp only at hSw
    go_simp
    try with_reducible rfl
  try simp only [Act.put, List.setIfInBounds_toArray, List.set_cons_zero, List.set_cons_succ]
  refine wpAnyH_ready (rs := [33]) (by kernel_rfl) (by simp) ?_
  refine AllReadyH.cons (o := { dst := some 165, op := Op.call { callee := Callee.value (Operand.func 18), args := #[Operand.tmp 164], argTypes := #[25] }, type := 3, pos := "law.go:194", after := #[{ on := 32, ground := Ground.data }, { on := 31, ground := Ground.chain }, { on := 31, ground := Ground.guard }], guard := some (31, false) }) rfl (fun K hK => ?_) AllReadyH.nil
  go_simp
  go_at_call 18
  refine (count_any m c d _ ws12 11 _ _ (K12.out.ext X14.out).hM).mono ?_
  rintro e w15 ⟨rfl, rfl⟩
  try go_wp2_with fail
  refine hK.out _ _ (KS12.out _ X14.out) (fun hHeld => ?_)
  clear hK K
  try simp only [Act.put, List.setIfInBounds_toArray, List.set_cons_zero, List.set_cons_succ]
  refine wpAnyH_take (i := 34) (oi := { dst := some 166, op := Op.binOp BinOp.neq 3 (Operand.tmp 165) (Operand.const (Value.int IntKind.i64 0)) 3, type := 4, pos := "law.go:194", after := #[{ on := 33, ground := Ground.data }, { on := 31, ground := Ground.guard }], guard := some (31, false) }) (v := ?v78) rfl (by kernel_rfl) (by kernel_rfl) (by kernel_rfl) (fun _ _ _ h => h) (Or.inl ⟨by rfl, ?y78⟩) (by assumption) ?r78
  case y78 =>
    intro w' hSw
    try dsimp only at hSw
    go_simp
    try with_reducible rfl
  try simp only [Act.put, List.setIfInBounds_toArray, List.set_cons_zero, List.set_cons_succ]
  refine wpAnyH_take (i := 35) (oi := { dst := some 167, op := Op.pick (Operand.tmp 163) (Operand.const (Value.bool true)) (Operand.tmp 166), type := 4, pos := "law.go:194", after := #[{ on := 31, ground := Ground.data }, { on := 34, ground := Ground.data }], guard := none }) (v := ?v79) rfl (by kernel_rfl) (by kernel_rfl) (by kernel_rfl) (fun _ _ _ h => h) (Or.inl ⟨by rfl, ?y79⟩) (by assumption) ?r79
  case y79 =>
    intro w' hSw
    try dsimp only at hSw
    go_simp
    try with_reducible rfl
  try simp only [Act.put, List.setIfInBounds_toArray, List.set_cons_zero, List.set_cons_succ]
  refine wpAnyH_done (by kernel_rfl) ?_ _
  have K16 := Lib.hid (K12.out.ext X14.out)
  clear KS12 X12 X13 B2 BK2 lf2 hHeld K12
  go_wp2_with (first
      | (go_at_call 10; refine (step_nil _ _ _).mono ?_; rintro e w17 ⟨rfl, rfl⟩)
      | (go_at_call 6; refine (vawake _).mono ?_; rintro e w18 ⟨rfl, hx⟩; have X18 := Lib.hid hx; clear hx))
  go_ret
  exact ⟨rfl, K16.out.hx.trans (X18.out.mono K16.out.hx.size)⟩
end Go.Proofs.YtoncebfhkoabaaaDoor
