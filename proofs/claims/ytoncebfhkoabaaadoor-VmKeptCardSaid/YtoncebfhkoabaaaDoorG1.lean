import Derived.Test.YtoncebfhkoabaaaDoorV23
import Derived.Deep.MidRow
import Derived.Deep.RegionHeld3
import Derived.Laws.StructEq
import Derived.Test.YtoncebfhkoabaaaDoorF1
import Derived.Test.YtoncebfhkoabaaaDoorQ0
import Derived.Test.YtoncebfhkoabaaaDoorV13
import Derived.BigQuiet
import Derived.Test.YtoncebfhkoabaaaDoorS3
import Derived.Test.YtoncebfhkoabaaaDoorA4
import Derived.Test.YtoncebfhkoabaaaDoorV18
/- Walk of VmValues: true for any instruction and any registers. -/
namespace Go.Proofs.YtoncebfhkoabaaaDoor
open Go.RowKit

set_option maxHeartbeats 4000000 in
set_option maxRecDepth 100000 in
theorem Tryd.eqRegs (r : List Int) (h : r.length = 32) (w : World) : (Op.equalIn 10000 48 (.agg (r.map (Value.int .u64)).toArray) (.agg (r.map (Value.int .u64)).toArray)).run Tryd.prog w = .ok true w := by
  match r, h with
  | [r0, r1, r2, r3, r4, r5, r6, r7, r8, r9, r10, r11, r12, r13, r14, r15, r16, r17, r18, r19, r20, r21, r22, r23, r24, r25, r26, r27, r28, r29, r30, r31], _ =>
    have u3 := Tryd.underlying47
    have a3 : ∀ w, (sizeOf 47).run Tryd.prog w = .ok 1 w := fun _ => by kernel_rfl
    have b3 : ∀ w, (isAgg 47).run Tryd.prog w = .ok false w := fun _ => by kernel_rfl
    rw [show (10000 : Nat) = 9999 + 1 from rfl, Op.equalIn]
    simp only [Sem.run_bind, run_underlying Tryd.underlying48, Result.andThen_ok]
    simp only [Std.Legacy.Range.forIn_eq_forIn_range', Std.Legacy.Range.size, Nat.sub_zero, Nat.add_sub_cancel, Nat.div_one, List.range'_succ, List.range'_zero, List.forIn_cons, List.forIn_nil]
    go_simp

theorem FrAt.range {w : World} {b : Nat} {pc : Int} {r : List Int} {A : Option Addr} {n cap : Nat} (h : FrAt w b 0 pc r A n cap) : w.rangeAt b 1 (r.map (Value.int .u64)) := by
  intro j v hj
  have hlt : j < 32 := by have := (List.getElem?_eq_some_iff.1 hj).1; simpa [h.len] using this
  have h1 := h.r j hlt
  rw [List.getElem?_map, List.getElem?_eq_getElem (by rw [h.len]; exact hlt)] at hj
  simp only [Option.map_some, Option.some.injEq] at hj
  rw [← hj]
  rw [List.getD_eq_getElem?_getD, List.getElem?_eq_getElem (by rw [h.len]; exact hlt), Option.getD_some] at h1
  simpa using h1
end Go.Proofs.YtoncebfhkoabaaaDoor

/- Walks: Ints, Count, alike. -/
namespace Go.Proofs.YtoncebfhkoabaaaDoor
open Go.RowKit
set_option linter.unusedSimpArgs false

theorem ints_any (A B : Option Addr) (c d : Nat) (l : List Int) (hm : (l.length : Int) ≤ 9223372036854775807) (w : World) (ha : BackIs w A l) (hb : BackIs w B l) :
    Calls Tryd.prog 17 #[.slice A l.length c, .slice B l.length d] w fun e w' => e = .returned (.bool true) ∧ ∃ n, w' = w.drewN n := by
  have HA := Lib.hid ha
  have HB := Lib.hid hb
  clear ha hb
  go_enter Tryd.func17, Tryd.ntmps17
  go_wp2_with fail
  go_loopw [5] (fun i wr => ∃ k : Nat, k ≤ l.length ∧ i = .int .i64 k ∧ ∃ n, wr = w.drewN n) (fun i _ => l.length - (intOf i).toNat)
  case atStart => exact ⟨0, Nat.zero_le _, rfl, 0, rfl⟩
  case round =>
    obtain ⟨k, hk, rfl, nq0, rfl⟩ := hrel
    by_cases hlt : k < l.length
    · have hne : l ≠ [] := by intro e; subst e; simp at hlt
      obtain ⟨b1, o1, rfl, h1⟩ := HA.out hne
      obtain ⟨b2, o2, rfl, h2⟩ := HB.out hne
      have c0 := h1 k hlt
      have d0 := h2 k hlt
      clear h1 h2
      generalize l.getD k 0 = y at c0 d0
      have hz : (0 : Int) ≤ (k : Int) := by omega
      have hkl : (k : Int) < (l.length : Int) := by omega
      go_wp2_with fail
      go_quiet (fail)
      go_wp2_with fail
      go_roundw
      case rel => exact ⟨k + 1, by omega, by go_num, _, rfl⟩
      case measure => simp [intOf]; omega
    · have hkn : k = l.length := by omega
      subst hkn
      go_wp2_with fail
      go_ret
      exact ⟨rfl, _, rfl⟩
theorem drewN_ext (w : World) (n : Nat) : Ext w (w.drewN n) := by
  induction n with
  | zero => exact Below.refl _ _
  | succ n ih => exact ih.drew
theorem count_any (m c d : Nat) (cs ws : List Int) (th ct : Int) (w : World) (hM : MemAt w m c d cs ws th ct) :
    Calls Tryd.prog 18 #[.pointer (some ⟨m, 0, none⟩)] w fun e w' => e = .returned (.int .i64 ct) ∧ w = w' := by
  have h := hM.hct
  go_enter Tryd.func18, Tryd.ntmps18
  go_wp2_with fail
  go_ret
  exact ⟨rfl, rfl⟩
theorem wpQuiet_val {P : Program} {ops : Array Oper} {C : World → Prop} {Q : Act → Prop} {rest : List Oper} {o : Oper} {a : Act} (v : Value) (hw : Region.wanted o (yielded ops a.tmps) = true) (h : ∀ w, C w → (execOp a.eval o).run P w = .ok (.value v) w)
    (hk : wpQuiet P ops C Q rest (a.put o.dst v)) : wpQuiet P ops C Q (o :: rest) a :=
  wpQuiet_step fun K hK => by
    rw [if_pos hw]
    exact ⟨v, fun w hc => by unfold Oper.quietAt; rw [h w hc]; exact ⟨rfl, rfl⟩, hK _ hk⟩
theorem wpQuiet_load_mid {P : Program} {ops : Array Oper} {C : World → Prop} {Q : Act → Prop} {rest : List Oper} {op : Oper} {a : Act} (ty : TypeId) (x : Operand) (b o : Nat) (cs : List Value) (d : TypeDesc) (ho : op.op = .load ty x) (hw : Region.wanted op (yielded ops a.tmps) = true)
    (hx : a.eval x = .pointer (some ⟨b, o, none⟩)) (hC : ∀ w, C w → w.rangeAt b o cs)
    (hu : P.underlying ty = some d) (hd : d.isRow = true) (hi : (P.info? ty).map (·.size) = some cs.length)
    (hk : wpQuiet P ops C Q rest (a.put op.dst (.agg cs.toArray))) : wpQuiet P ops C Q (op :: rest) a :=
  wpQuiet_val _ hw (fun w hw' => by
    unfold execOp
    simp only [ho, hx, Instr.loadAt, Instr.sureAddr, Sem.run_bind, Sem.run_pure, Result.andThen_ok, run_loadVar_mid w b o ty cs d (hC w hw') hu hd hi]) hk
def AlikePost (w : World) (m c d m2 c2 d2 : Nat) (cs : List Int) (ct : Int) (e : Ending) (w' : World) : Prop :=
  e = .returned (.bool true) ∧ MemAt w' m c d cs ws12 11 ct ∧ RMemAt w' m2 c2 d2 cs ws12 ct ∧ Upto (fun q => q = m ∨ q = c ∨ q = m2 ∨ q = c2) w w'

set_option maxHeartbeats 8000000 in
set_option maxRecDepth 100000 in
theorem alike_any (M : Nat → Prop) (f g m c d m2 c2 d2 : Nat) (pc : Int) (r bk cs : List Int) (ct : Int) (w : World) (hF : FrB M w f 0 pc r bk) (hG : FrB M w g 0 pc r bk) (hM : MemAt w m c d cs ws12 11 ct) (hR : RMemAt w m2 c2 d2 cs ws12 ct)
    (hcl : cs.length = 12) (hcr : ∀ i, Rng (cs.getD i 0)) (hbl : bk.length ≤ 8) (h0 : 0 ≤ ct) (h1 : ct ≤ 100000000000000)
    (n1 : m ≠ m2) (n2 : m ≠ c2) (n3 : m ≠ d2) (n4 : c ≠ m2) (n5 : c ≠ c2) (n6 : c ≠ d2) (n7 : d ≠ m2) (n8 : d ≠ c2) :
    Calls Tryd.prog 13 #[.pointer (some ⟨f, 0, none⟩), .pointer (some ⟨g, 0, none⟩), .pointer (some ⟨m, 0, none⟩), .pointer (some ⟨m2, 0, none⟩)] w (AlikePost w m c d m2 c2 d2 cs (ct + 11)) := by
  obtain ⟨A1, c1, hF, hB1, _, _⟩ := hF
  obtain ⟨A2, c3, hG, hB2, _, _⟩ := hG
  have MM := Lib.hid hM
  have RR := Lib.hid hR
  have B1 := Lib.hid hB1
  have B2 := Lib.hid hB2
  have k0 := cell_regrown hF.pc
  have k1 := cell_regrown hG.pc
  have k2 := cell_regrown hF.back
  have k3 := cell_regrown hG.back
  have k4 := cell_regrown hR.hct
  have he := Tryd.eqRegs r hF.len
  have hinf : (Tryd.prog.info? 48).map (·.size) = some (r.map (Value.int .u64)).length := by rw [List.length_map, hF.len]; kernel_rfl
  have hgd : Tryd.prog.eqGuardType Tryd.prog.depth 48 = false := by kernel_rfl
  simp only [Nat.zero_add] at k2 k3
  have lf := hF.lt
  have lg := hG.lt
  have hl1 : ∀ w', (∃ p : Regrown, w' = Go.Sort.grow (redrawn w p.d) p.os) → w'.rangeAt f 1 (r.map (Value.int .u64)) := by
    rintro w' ⟨p, rfl⟩; exact FrAt.range (hF.ext (below_regrown w _ _))
  have hl2 : ∀ w', (∃ p : Regrown, w' = Go.Sort.grow (redrawn w p.d) p.os) → w'.rangeAt g 1 (r.map (Value.int .u64)) := by
    rintro w' ⟨p, rfl⟩; exact FrAt.range (hG.ext (below_regrown w _ _))
  have HL1 := Lib.hid hl1
  have HL2 := Lib.hid hl2
  have HI := Lib.hid hinf
  clear hM hR hB1 hB2 hF hG hl1 hl2 hinf
  generalize r.map (Value.int .u64) = ra at he HL1 HL2 HI
  unfold AlikePost
  go_enter Tryd.func13, Tryd.ntmps13
  go_upto_region 1 with fail
  refine wp_region_below_tail 40 (by kernel_rfl) (by kernel_rfl) ?_
  simp only [List.take_succ_cons, List.take_zero, List.drop_succ_cons, List.drop_zero]
  repeat (quiet_step (first
      | (go_at_call 17; exact regrown_call ((ints_any A1 A2 c1 c3 bk (by omega) _ (B1.out.ext (below_regrown w _ _)) (B2.out.ext (below_regrown w _ _))).mono fun e w' h => ⟨h.1, by obtain ⟨n, rfl⟩ := h.2; exact drewN_ext _ n⟩))
      | (go_at_call 18; exact regrown_same (count_any m c d cs ws12 11 ct _ (MM.out.ext (below_regrown w _ _))))))
  refine wpQuiet_load_mid 48 (.tmp 24) f 1 ra _ rfl (by rfl) (by rfl) HL1.out Tryd.underlying48 rfl HI.out ?_
  simp only [Act.put, List.setIfInBounds_toArray, List.set_cons_zero, List.set_cons_succ]
  repeat (quiet_step (first
      | (go_at_call 17; exact regrown_call ((ints_any A1 A2 c1 c3 bk (by omega) _ (B1.out.ext (below_regrown w _ _)) (B2.out.ext (below_regrown w _ _))).mono fun e w' h => ⟨h.1, by obtain ⟨n, rfl⟩ := h.2; exact drewN_ext _ n⟩))
      | (go_at_call 18; exact regrown_same (count_any m c d cs ws12 11 ct _ (MM.out.ext (below_regrown w _ _))))))
  refine wpQuiet_load_mid 48 (.tmp 28) g 1 ra _ rfl (by rfl) (by rfl) HL2.out Tryd.underlying48 rfl HI.out ?_
  simp only [Act.put, List.setIfInBounds_toArray, List.set_cons_zero, List.set_cons_succ]
  repeat (quiet_step (first
      | (go_at_call 17; exact regrown_call ((ints_any A1 A2 c1 c3 bk (by omega) _ (B1.out.ext (below_regrown w _ _)) (B2.out.ext (below_regrown w _ _))).mono fun e w' h => ⟨h.1, by obtain ⟨n, rfl⟩ := h.2; exact drewN_ext _ n⟩))
      | (go_at_call 18; exact regrown_same (count_any m c d cs ws12 11 ct _ (MM.out.ext (below_regrown w _ _))))))
  refine wpQuiet_nil ?_
  intro w2 hw'
  obtain ⟨⟨dq, osq⟩, hw2⟩ := hw'
  have hX2 : Ext w w2 := by rw [hw2]; exact below_regrown w dq osq
  have MM2 := Lib.hid (MM.out.ext hX2)
  have RR2 := Lib.hid (RR.out.ext hX2)
  have UU2 := Lib.hid (show Upto (fun q => q = m ∨ q = c ∨ q = m2 ∨ q = c2) w w2 from Upto.of_ext hX2)
  clear hw2 k0 k1 k2 k3 k4 hX2 HL1 HL2 HI MM RR B1 B2 he
  go_wp2_with fail
  go_loopw [9] (fun i wr => ∃ k : Nat, k ≤ 11 ∧ i = .int .i64 k ∧ MemAt wr m c d cs ws12 11 (ct + k) ∧ RMemAt wr m2 c2 d2 cs ws12 (ct + k) ∧ Upto (fun q => q = m ∨ q = c ∨ q = m2 ∨ q = c2) w wr) (fun i _ => 11 - (intOf i).toNat)
  case atStart => exact ⟨0, Nat.zero_le _, rfl, by simpa using MM2.out, by simpa using RR2.out, UU2.out⟩
  case round =>
    obtain ⟨k, hk, rfl, hM, hR, hU⟩ := hrel
    clear MM2 RR2 UU2
    have M3 := Lib.hid hM
    have R3 := Lib.hid hR
    have U3 := Lib.hid hU
    clear hM hR hU
    by_cases hlt : k < 11
    · have hkc : k < cs.length := by omega
      have hne := ws12_ne hlt
      have hz : (0 : Int) ≤ (k : Int) := by omega
      have hz1 : (k : Int) < 11 := by omega
      have hkl : (k : Int) < (cs.length : Int) := by omega
      have e0 : cs.set k (newF 0 (ws12.getD k 0) (cs.getD k 0) 0 0) = cs := set_self cs k hkc
      have E0 := Lib.hid e0
      have hr := hcr k
      unfold Rng at hr
      clear e0
      obtain ⟨h, hh⟩ : ∃ h, cs.getD k 0 = h := ⟨_, rfl⟩
      have HH := Lib.hid hh
      clear hh
      go_upto_region 8 with (first
        | (go_at_call 25; refine (load_hit m c d cs ws12 11 (ct + k) _ k M3.out hkc hne (by omega) (by omega)).mono ?_; rintro e w4 ⟨he4, hM4, hU4⟩; rw [HH.out] at he4; subst he4; rw [set_self cs k hkc] at hM4; have M4 := Lib.hid hM4; have U4 := Lib.hid hU4; clear hM4 hU4)
        | (go_at_call 24; refine (rdo_hit m2 c2 d2 cs ws12 (ct + k) _ 0 k 0 0 (by omega) (R3.out.upto (S := fun q => q = m ∨ q = c) U4.out (by omega) (by omega) (by omega)) hkc hne (by omega) (by omega) (by omega) (by omega) (by omega) (by omega) hr).mono ?_; rintro e w5 ⟨he5, hM5, hU5⟩; rw [HH.out] at he5; subst he5; rw [E0.out] at hM5; have R5 := Lib.hid hM5; have U5 := Lib.hid hU5; clear hM5 hU5))
      have q1 := R5.out.pc
      have q2 := R5.out.hcs k hkc
      rw [HH.out] at q2
      generalize hN : cs.length = N at *
      have HN := Lib.hid hN
      clear hN
      go_wp2_with fail
      go_roundw
      case rel => exact ⟨k + 1, by omega, by go_num, by rw [show ct + ((k + 1 : Nat) : Int) = ct + k + 1 by omega]; exact M4.out.upto (S := fun q => q = m2 ∨ q = c2) U5.out (by omega) (by omega) (by omega), by rw [show ct + ((k + 1 : Nat) : Int) = ct + k + 1 by omega]; exact R5.out, (U3.out.trans (U4.out.mono (by omega))).trans (U5.out.mono (by omega))⟩
      case measure => simp [intOf]; omega
    · have hk11 : k = 11 := by omega
      subst hk11
      go_wp2_with fail
      go_ret
      exact ⟨rfl, M3.out, R3.out, U3.out⟩
end Go.Proofs.YtoncebfhkoabaaaDoor

/- A round of VmRuns: both Steps, the errors, what is alike. -/
namespace Go.Proofs.YtoncebfhkoabaaaDoor
open Go.RowKit Go.Extern.Stop Go.Stop Go.Extern

theorem copyCode_new (A : Option Addr) (cap : Nat) (l : List InsD) (hb : l.length * 56 ≤ 140737488355328) (w : World) (hi : InsSl w A l) :
    Calls Tryd.prog 8 #[.slice A l.length cap] w fun e w' => ∃ A' c, e = .returned (.slice A' l.length c) ∧ InsSl w' A' l ∧ (∀ a, A' = some a → w.heap.size ≤ a.block) ∧ Ext w w' := by
  obtain ⟨i0, hi0, hz0, hz1, hz2⟩ := info_parts Tryd.insInfo
  have hr := reads_of hi
  go_enter Tryd.func8, Tryd.ntmps8
  go_wp2_with (first
    | (at_builtin
       refine wpList_append_any _ rfl _ _ _ rfl w.heap.size 52 i0 _ 7 56 Tryd.underlying22 hi0 hz0 hz1 hz2 rfl (by omega) (.slice none 0 0) 0 [] rfl
         ⟨by simp, .inl ⟨rfl, rfl⟩⟩ w.heap.size A l.length cap (insRow l) rfl hr (insRow_one l) (by simp only [maxLen]; omega) (by omega) (Nat.le_refl _) ?_
       intro v1 w1 hown1 hg1 hat1
       have hbw1 : Below w.heap.size w w1 := (Below.refl _ _).grown hg1 (Nat.le_refl _) (by simp [Value.ownBlock])))
  go_ret
  have hnew : ∀ k, v1.ownBlock = some k → w.heap.size ≤ k := fun k hk => (hown1.lt k hk).1
  obtain ⟨A', c, rfl⟩ : ∃ A' c, v1 = .slice A' l.length c := by
    obtain ⟨_, ⟨rfl, h0⟩ | ⟨g, cp, cur, rfl, _, _, hnc, _⟩⟩ := hown1
    · have : l.length = 0 := by omega
      exact ⟨none, 0, by rw [this]⟩
    · exact ⟨_, cp, by rw [Nat.zero_add]⟩
  exact ⟨A', c, rfl, insSl_own (by simpa using hown1), fun a ha => hnew a.block (by rw [ha]; rfl), hbw1⟩

theorem InsSl.upto {S : Nat → Prop} {w w' : World} {A : Option Addr} {l : List InsD} (h : InsSl w A l) (hu : Upto S w w') (hs : l ≠ [] → ∀ a, A = some a → ¬ S a.block) : InsSl w' A l := fun hn => by
  obtain ⟨b, off, e, hi⟩ := h hn
  refine ⟨b, off, e, fun i hi2 => ?_⟩
  have hb : ¬ S b := hs hn ⟨b, off, none⟩ e
  have hc := hi i hi2
  exact ⟨hu.cell' hc.1 hb, hu.cell' hc.2.1 hb, hu.cell' hc.2.2.1 hb, hu.cell' hc.2.2.2.1 hb, hu.cell' hc.2.2.2.2.1 hb, hu.cell' hc.2.2.2.2.2.1 hb, hu.cell' hc.2.2.2.2.2.2 hb⟩

/-- Where the two frames and the two memories lie: all in blocks from B0 on. -/
structure Spot (B0 f g m c d m2 c2 d2 : Nat) : Prop where
  b1 : B0 ≤ m
  b2 : B0 ≤ c
  b3 : B0 ≤ d
  h4 : m < m2 ∧ m < c2 ∧ m < d2
  h5 : c < m2 ∧ c < c2 ∧ c < d2
  h6 : d < m2 ∧ d < c2 ∧ d < d2
  l1 : m2 < f
  l2 : c2 < f
  l3 : d2 < f
  fg : g = f + 1
def MQ (f g m c m2 c2 : Nat) : Nat → Prop := fun q => q = f ∨ q = g ∨ q = m ∨ q = c ∨ q = m2 ∨ q = c2
/-- What stands between two rounds; s1: the code's side, s2: the document's. -/
structure Run (w0 : World) (f g m c d m2 c2 d2 : Nat) (A B : Option Addr) (l : List InsD) (W : World) (s1 s2 : VmS) : Prop where
  hF : FrB (MQ f g m c m2 c2) W f 0 s1.pc s1.r s1.bk
  hG : FrB (MQ f g m c m2 c2) W g 0 s2.pc s2.r s2.bk
  hM : MemAt W m c d s1.cs ws12 11 s1.ct
  hR : RMemAt W m2 c2 d2 s2.cs ws12 s2.ct
  hA : InsSl W A l
  hB : InsSl W B l
  hx : Ext w0 W
section
variable {w0 W W' : World} {f g m c d m2 c2 d2 : Nat} {A B : Option Addr} {l : List InsD} {s s1 s2 : VmS} {ca cb : Nat}
theorem Run.ext (h : Run w0 f g m c d m2 c2 d2 A B l W s1 s2) (hx : Ext W W') : Run w0 f g m c d m2 c2 d2 A B l W' s1 s2 :=
  ⟨h.hF.ext hx, h.hG.ext hx, h.hM.ext hx, h.hR.ext hx, h.hA.ext hx, h.hB.ext hx, h.hx.trans (hx.mono h.hx.size)⟩
theorem FrB.lt {M : Nat → Prop} {w : World} {b o : Nat} {pc : Int} {r bk : List Int} (h : FrB M w b o pc r bk) : b < w.heap.size := by
  obtain ⟨A, cap, hF, _⟩ := h
  exact hF.lt
theorem Run.lay1 (h : Run w0 f g m c d m2 c2 d2 A B l W s1 s2) (hs : Spot w0.heap.size f g m c d m2 c2 d2) : Lay (MQ f g m c m2 c2) W f m c d := by
  obtain ⟨b1, b2, b3, h4, h5, h6, l1, l2, l3, fg⟩ := hs
  refine ⟨.inl rfl, .inr (.inr (.inl rfl)), .inr (.inr (.inr (.inl rfl))), by omega, by omega, by omega, fun k hk => ?_⟩
  have k1 := h.hG.lt
  unfold MQ at hk
  omega
theorem Run.lay2 (h : Run w0 f g m c d m2 c2 d2 A B l W s1 s2) (hs : Spot w0.heap.size f g m c d m2 c2 d2) : Lay (MQ f g m c m2 c2) W g m2 c2 d2 := by
  obtain ⟨b1, b2, b3, h4, h5, h6, l1, l2, l3, fg⟩ := hs
  refine ⟨.inr (.inl rfl), .inr (.inr (.inr (.inr (.inl rfl)))), .inr (.inr (.inr (.inr (.inr rfl)))), by omega, by omega, by omega, fun k hk => ?_⟩
  have k1 := h.hG.lt
  unfold MQ at hk
  omega
theorem vmStep_ok (l : List InsD) (s : VmS) : Ans.good (vmStep l s).2.2 := by
  intro ls k h
  unfold vmStep at h
  split at h
  · cases h
  · split at h
    · cases h
    · unfold insStep at h
      repeat' (first | (cases h; done) | (injection h with h; injection h with h1 h2; subst h1 h2; exact ⟨by simp, by simp, by omega, by omega⟩) | split at h)
theorem vmStep_good (hv : ∀ x ∈ l, Rng x.v) (h : s.Good) (hct : s.ct < 1000000000) : (vmStep l s).2.1.Good := by
  unfold vmStep
  split
  · exact h
  · split
    · exact h
    · rename_i x hx
      rcases h.step (n := l.length) (hv x (List.mem_of_getElem? hx)) with h1 | h1
      · exact h1
      · omega
theorem vmStep_ct (l : List InsD) (s : VmS) : (vmStep l s).2.1.ct = s.ct ∨ (vmStep l s).2.1.ct = s.ct + 1 := by
  unfold vmStep
  split
  · exact .inl rfl
  · split
    · exact .inl rfl
    · exact insStep_ct _ _ _
theorem run_v (hs : Spot w0.heap.size f g m c d m2 c2 d2) (hAn : l ≠ [] → ∀ a, A = some a → ¬ MQ f g m c m2 c2 a.block) (hBn : ∀ a, B = some a → ¬ MQ f g m c m2 c2 a.block) (hg : s.Good) (hlen : l.length ≤ 2048) (hv : ∀ x ∈ l, Rng x.v)
    (h : Run w0 f g m c d m2 c2 d2 A B l W s s) :
    Calls Tryd.prog 10 #[.pointer (some ⟨f, 0, none⟩), .slice B l.length cb, .iface 25 (.pointer (some ⟨m, 0, none⟩))] W fun e W' =>
      ∃ v, e = .returned (.tuple #[.int .i64 (vmStep l s).1, v]) ∧ ErrPost W' v (vmStep l s).2.2 ∧ Run w0 f g m c d m2 c2 d2 A B l W' (vmStep l s).2.1 s := by
  refine (vstep_any (h.lay1 hs) hg hlen hv h.hF h.hB h.hM).mono ?_
  rintro e W' ⟨v, he, hp, hF, hM, hU⟩
  obtain ⟨b1, b2, b3, h4, h5, h6, l1, l2, l3, fg⟩ := hs
  refine ⟨v, he, hp, hF, h.hG.upto hU (by omega) (fun k hk => by unfold MQ; omega), hM, h.hR.upto hU (by omega) (by omega) (by omega), h.hA.upto hU (fun hn a ha hk => hAn hn a ha (by unfold MQ; omega)), h.hB.upto hU (fun _ a ha hk => hBn a ha (by unfold MQ; omega)), h.hx.trans (hU.below h.hx.size (fun k hk => by omega))⟩
theorem run_r (hs : Spot w0.heap.size f g m c d m2 c2 d2) (hAn : l ≠ [] → ∀ a, A = some a → ¬ MQ f g m c m2 c2 a.block) (hBn : ∀ a, B = some a → ¬ MQ f g m c m2 c2 a.block) (hg : s.Good) (hlen : l.length ≤ 2048) (hv : ∀ x ∈ l, Rng x.v)
    (v : Value) (hp : ErrPost W v (vmStep l s).2.2) (h : Run w0 f g m c d m2 c2 d2 A B l W (vmStep l s).2.1 s) :
    Calls Tryd.prog 11 #[.pointer (some ⟨g, 0, none⟩), .slice A l.length ca, .pointer (some ⟨m2, 0, none⟩)] W fun e W' =>
      ∃ u, e = .returned (.tuple #[.int .i64 (vmStep l s).1, u]) ∧ FailPost W' u (vmStep l s).2.2 ∧ ErrPost W' v (vmStep l s).2.2 ∧ Run w0 f g m c d m2 c2 d2 A B l W' (vmStep l s).2.1 (vmStep l s).2.1 := by
  refine (rstep_any (h.lay2 hs) hg hlen hv h.hG h.hA h.hR).mono ?_
  rintro e W' ⟨u, he, hf, hG, hR, hU, hE⟩
  obtain ⟨b1, b2, b3, h4, h5, h6, l1, l2, l3, fg⟩ := hs
  refine ⟨u, he, hf, ?_, h.hF.upto hU (by omega) (fun k hk => by unfold MQ; omega), hG, h.hM.upto hU (by omega) (by omega) (by omega), hR, h.hA.upto hU (fun hn a ha hk => hAn hn a ha (by unfold MQ; omega)), h.hB.upto hU (fun _ a ha hk => hBn a ha (by unfold MQ; omega)), h.hx.trans (hU.below h.hx.size (fun k hk => by omega))⟩
  cases hq : (vmStep l s).2.2 with
  | none => rw [hq] at hp; exact hp
  | some p => exact hp.ext (hE (by rw [hq]; simp)) |> (hq ▸ ·)
def VmS.plus (s : VmS) : VmS := { s with ct := s.ct + 11 }
theorem run_a (hs : Spot w0.heap.size f g m c d m2 c2 d2) (hAn : l ≠ [] → ∀ a, A = some a → ¬ MQ f g m c m2 c2 a.block) (hBn : ∀ a, B = some a → ¬ MQ f g m c m2 c2 a.block) (hg : s.Good)
    (h : Run w0 f g m c d m2 c2 d2 A B l W s s) :
    Calls Tryd.prog 13 #[.pointer (some ⟨f, 0, none⟩), .pointer (some ⟨g, 0, none⟩), .pointer (some ⟨m, 0, none⟩), .pointer (some ⟨m2, 0, none⟩)] W fun e W' =>
      e = .returned (.bool true) ∧ Run w0 f g m c d m2 c2 d2 A B l W' s.plus s.plus := by
  obtain ⟨b1, b2, b3, h4, h5, h6, l1, l2, l3, fg⟩ := hs
  refine (alike_any (MQ f g m c m2 c2) f g m c d m2 c2 d2 s.pc s.r s.bk s.cs s.ct W h.hF h.hG h.hM h.hR hg.cl hg.cr hg.bl hg.t0 (by have := hg.t1; omega) (by omega) (by omega) (by omega) (by omega) (by omega) (by omega) (by omega) (by omega)).mono ?_
  rintro e W' ⟨he, hM, hR, hU⟩
  exact ⟨he, h.hF.upto hU (by omega) (fun k hk => by unfold MQ; omega), h.hG.upto hU (by omega) (fun k hk => by unfold MQ; omega), hM, hR, h.hA.upto hU (fun hn a ha hk => hAn hn a ha (by unfold MQ; omega)), h.hB.upto hU (fun _ a ha hk => hBn a ha (by unfold MQ; omega)), h.hx.trans (hU.below h.hx.size (fun k hk => by omega))⟩
end
theorem loadR_rng (vs : List Int) (hv : ∀ i, Rng (vs.getD i 0)) (k : Nat) : ∀ i, Rng ((loadR vs k).getD i 0) := by
  induction k with
  | zero => intro i; unfold loadR; rw [getD_rep]; unfold Rng; omega
  | succ k ih => intro i; unfold loadR; exact set_rng ih _ (hv k) i
end Go.Proofs.YtoncebfhkoabaaaDoor
