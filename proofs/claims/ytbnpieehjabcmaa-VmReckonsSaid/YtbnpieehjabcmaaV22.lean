/- Walk of VmReckons: true for any two numbers. -/
import Derived.Test.YtbnpieehjabcmaaV21
import Derived.BigRegion
import Derived.StillTailTactics
import Derived.StillTactics
import Derived.Laws.Bits64
namespace Go.Proofs.Ytbnpieehjabcmaa
open Go.RowKit

def r0V (a b : Int) : List Int := [0, a, b, 0, 0, 0, 0, 0, 0, 0, 0, 0, 0, 0, 0, 0, 0, 0, 0, 0, 0, 0, 0, 0, 0, 0, 0, 0, 0, 0, 0, 0]
def L12 (b : Int) : List InsD := [⟨3, 3, 1, 2, 0, 0, 0⟩, ⟨4, 3, 3, 2, 0, 0, 0⟩, ⟨7, 4, 1, 2, 0, 0, 0⟩, ⟨7, 4, 4, 2, 0, 0, 0⟩, ⟨11, 5, 1, 2, 0, 0, 0⟩, ⟨11, 6, 2, 1, 0, 0, 0⟩, ⟨10, 7, 1, 2, 0, 0, 0⟩, ⟨5, 8, 1, 2, 0, 0, 0⟩, ⟨6, 9, 1, 2, 0, 0, 0⟩, ⟨8, 10, 1, 2, 0, 0, 0⟩, ⟨8, 11, 1, -1, b % 64, 0, 0⟩, ⟨9, 12, 1, 2, 0, 0, 0⟩]
def rrV (a b : Int) : Nat → List Int
  | 0 => r0V a b
  | q + 1 => match (L12 b)[q]? with
    | some x => apR x (rrV a b q)
    | none => rrV a b q
theorem rrV_succ (a b : Int) (q : Nat) (h : q < (L12 b).length) : rrV a b (q + 1) = apR (L12 b)[q] (rrV a b q) := by
  show (match (L12 b)[q]? with | some x => apR x (rrV a b q) | none => rrV a b q) = _
  rw [List.getElem?_eq_getElem h]
theorem L12_ok (b : Int) : ∀ x ∈ L12 b, vmayF x 1 = true ∧ (1 ≤ x.op ∧ x.op ≤ 11) ∧ 0 ≤ x.a ∧ x.a < 32 := by
  intro x hx
  simp only [L12, List.mem_cons, List.not_mem_nil, or_false] at hx
  rcases hx with rfl | rfl | rfl | rfl | rfl | rfl | rfl | rfl | rfl | rfl | rfl | rfl <;> exact ⟨rfl, ⟨by simp, by simp⟩, by simp, by simp⟩
def r12V (a b : Int) : List Int := [0, a, b, IntKind.u64.wrap (IntKind.u64.wrap (a + b) - b), bits .xor .u64 (bits .xor .u64 a b) b, flagF (decide (a < b)), flagF (decide (b < a)), flagF (a == b), bits .and .u64 a b, bits .or .u64 a b, IntKind.u64.wrap (a * 2 ^ min (shiftBy b).toNat 64), IntKind.u64.wrap (a * 2 ^ min (shiftBy (b % 64)).toNat 64), a / 2 ^ min (shiftBy b).toNat 64, 0, 0, 0, 0, 0, 0, 0, 0, 0, 0, 0, 0, 0, 0, 0, 0, 0, 0, 0]
theorem rrV_12 (a b : Int) : rrV a b 12 = r12V a b := by rfl

theorem shiftBy_eq (c : Int) (h0 : 0 ≤ c) (h1 : c < 18446744073709551616) : shiftBy c = c % 64 :=
  bits_mask .u64 64 (by decide) wraps_u64 6 (by decide) c h0 h1
theorem add_sub (a b : Int) (h0 : 0 ≤ a) (h1 : a < 18446744073709551616) : IntKind.u64.wrap (IntKind.u64.wrap (a + b) - b) = a := by
  simp only [IntKind.wrap_u64]; omega
theorem nat_bits (x y : Nat) : (x &&& y) % 2 + (x ||| y) % 2 = x % 2 + y % 2 := by
  have h1 := Nat.and_mod_two_pow (a := x) (b := y) (n := 1)
  have h2 := Nat.or_mod_two_pow (a := x) (b := y) (n := 1)
  simp only [Nat.pow_one] at h1 h2
  rw [h1, h2]
  have hx : x % 2 = 0 ∨ x % 2 = 1 := by omega
  have hy : y % 2 = 0 ∨ y % 2 = 1 := by omega
  rcases hx with e | e <;> rcases hy with e2 | e2 <;> rw [e, e2] <;> rfl
theorem nat_and_or (x y : Nat) : (x &&& y) + (x ||| y) = x + y := by
  induction x using Nat.strongRecOn generalizing y with
  | _ x ih =>
    by_cases h : x = 0
    · subst h; simp
    · have h1 := ih (x / 2) (by omega) (y / 2)
      have h2 := nat_bits x y
      rw [← Nat.and_div_two, ← Nat.or_div_two] at h1
      omega
theorem and_or_u64 (a b : Nat) (h1 : a < 18446744073709551616) (h3 : b < 18446744073709551616) : bits .and .u64 (a : Int) b + bits .or .u64 (a : Int) b = (a : Int) + b := by
  obtain ⟨e1, e2⟩ := bits_nat .u64 64 (by decide) wraps_u64 a b (by omega) (by omega)
  rw [e1, e2]
  have := nat_and_or a b
  omega
theorem xor_twice (a b : Nat) (h1 : a < 18446744073709551616) (h3 : b < 18446744073709551616) : bits .xor .u64 (bits .xor .u64 (a : Int) b) b = (a : Int) := by
  have hx : a ^^^ b < 2 ^ 64 := Nat.xor_lt_two_pow (by omega) (by omega)
  rw [bits_xor_u64_nat a b h1 h3, bits_xor_u64_nat _ b (by omega) h3, Nat.xor_assoc, Nat.xor_self, Nat.xor_zero]
theorem flags_one (a b : Int) : IntKind.u64.wrap (IntKind.u64.wrap (flagF (decide (a < b)) + flagF (decide (b < a))) + flagF (a == b)) = 1 := by
  by_cases h1 : a < b
  · have e1 : decide (a < b) = true := by simpa using h1
    have e2 : decide (b < a) = false := by simp; omega
    have e3 : (a == b) = false := beq_eq_false_iff_ne.2 (by omega)
    rw [e1, e2, e3]; rfl
  · by_cases h2 : b < a
    · have e1 : decide (a < b) = false := by simpa using h1
      have e2 : decide (b < a) = true := by simpa using h2
      have e3 : (a == b) = false := beq_eq_false_iff_ne.2 (by omega)
      rw [e1, e2, e3]; rfl
    · have e1 : decide (a < b) = false := by simpa using h1
      have e2 : decide (b < a) = false := by simpa using h2
      have e3 : (a == b) = true := beq_iff_eq.2 (by omega)
      rw [e1, e2, e3]; rfl

theorem ins_12 (W : World) (O : Obj) (b : Int) : InsAt ((W.alloc O).alloc (.cells #[.int .i64 3, .int .i64 3, .int .i64 1, .int .i64 2, .int .u64 0, .int .i64 0, .int .i64 0, .int .i64 4, .int .i64 3, .int .i64 3, .int .i64 2, .int .u64 0, .int .i64 0, .int .i64 0, .int .i64 7, .int .i64 4, .int .i64 1, .int .i64 2, .int .u64 0, .int .i64 0, .int .i64 0, .int .i64 7, .int .i64 4, .int .i64 4, .int .i64 2, .int .u64 0, .int .i64 0, .int .i64 0, .int .i64 11, .int .i64 5, .int .i64 1, .int .i64 2, .int .u64 0, .int .i64 0, .int .i64 0, .int .i64 11, .int .i64 6, .int .i64 2, .int .i64 1, .int .u64 0, .int .i64 0, .int .i64 0, .int .i64 10, .int .i64 7, .int .i64 1, .int .i64 2, .int .u64 0, .int .i64 0, .int .i64 0, .int .i64 5, .int .i64 8, .int .i64 1, .int .i64 2, .int .u64 0, .int .i64 0, .int .i64 0, .int .i64 6, .int .i64 9, .int .i64 1, .int .i64 2, .int .u64 0, .int .i64 0, .int .i64 0, .int .i64 8, .int .i64 10, .int .i64 1, .int .i64 2, .int .u64 0, .int .i64 0, .int .i64 0, .int .i64 8, .int .i64 11, .int .i64 1, .int .i64 (-1), .int .u64 (b % 64), .int .i64 0, .int .i64 0, .int .i64 9, .int .i64 12, .int .i64 1, .int .i64 2, .int .u64 0, .int .i64 0, .int .i64 0] 24)) (W.heap.size + 1) 0 (L12 b) := by
  intro i hi
  have e : i = 0 ∨ i = 1 ∨ i = 2 ∨ i = 3 ∨ i = 4 ∨ i = 5 ∨ i = 6 ∨ i = 7 ∨ i = 8 ∨ i = 9 ∨ i = 10 ∨ i = 11 := by simp [L12] at hi; omega
  rcases e with rfl | rfl | rfl | rfl | rfl | rfl | rfl | rfl | rfl | rfl | rfl | rfl <;> simp [L12]

set_option maxHeartbeats 8000000 in
set_option maxRecDepth 100000 in
theorem vmReckons_walk (a b : Nat) (h1 : a < 18446744073709551616) (h3 : b < 18446744073709551616) (w : World) : Calls Try.prog 4 #[.int .u64 a, .int .u64 b] w fun e w' => e = .returned (.bool true) ∧ Ext w w' := by
  go_enter Try.func4, Try.ntmps4
  go_wp2_with fail
  go_region
  go_wp2_with fail
  go_loopw [36] (fun i wr => ∃ q : Nat, q ≤ 12 ∧ i = .int .i64 q ∧ (∃ pc : Int, FrB (· = w.heap.size) wr w.heap.size 0 pc (rrV a b q) []) ∧ InsAt wr (w.heap.size + 1) 0 (L12 b) ∧ Ext w wr ∧ w.heap.size + 1 < wr.heap.size) (fun i _ => 12 - (intOf i).toNat)
  case atStart =>
    refine ⟨0, Nat.zero_le _, rfl, ⟨0, ?_⟩, ?_, ?_, by simp⟩
    · exact (((frb_new (· = w.heap.size) w 0 (r0V a b) rfl).ext (ext1 _ _)).ext (Below.refl _ _).drew)
    · exact (ins_12 w _ b).ext (Below.refl _ _).drew
    · exact ((ext1 w _).alloc (by simp) _).drew
  case round =>
    obtain ⟨q, hq, rfl, ⟨pc, hF⟩, hI, hX, hz⟩ := hrel
    have F := Lib.hid hF
    have I := Lib.hid hI
    have X := Lib.hid hX
    clear hF hI hX
    by_cases hlt : q < 12
    · have hl : q < (L12 (b : Int)).length := hlt
      have hs := rrV_succ a b q hl
      obtain ⟨hv, hop, ha0, ha1⟩ := L12_ok b _ (List.getElem_mem hl)
      obtain ⟨c0, c1, c2, c3, c4, c5, c6⟩ := I.out q hl
      generalize (L12 (b : Int))[q] = y at hs hv hop ha0 ha1 c0 c1 c2 c3 c4 c5 c6
      have HS := Lib.hid hs
      have HV := Lib.hid hv
      clear hs hv hl
      have q1 : (q : Int) < 12 := by omega
      simp only [Nat.zero_add] at c0 c1 c2 c3 c4 c5 c6
      go_wp2_with fail
      refine (one_any w.heap.size y pc _ _ (F.out.ext (ext1 _ _)) HV.out hop ha0 ha1).mono ?_
      rintro e w2 ⟨rfl, hF2, hU2⟩
      rw [← HS.out] at hF2
      have F2 := Lib.hid hF2
      have I2 := Lib.hid ((I.out.ext (ext1 _ _)).upto hU2 (by omega))
      have X2 := Lib.hid (show Ext w w2 from (X.out.trans ((ext1 _ _).mono X.out.size)).trans (hU2.below (by have := X.out.size; simp; omega) (by rintro k rfl; omega)))
      have hz2 : w.heap.size + 1 < w2.heap.size := Nat.lt_of_lt_of_le (by simp; omega) hU2.size
      clear hF2 hU2 c0 c1 c2 c3 c4 c5 c6
      go_wp2_with fail
      go_roundw
      case rel => exact ⟨q + 1, by omega, by go_num, ⟨1, F2.out⟩, I2.out, X2.out, hz2⟩
      case measure => simp [intOf]; omega
    · obtain rfl : q = 12 := by omega
      have hF := F.out
      rw [rrV_12] at hF
      obtain ⟨A3, cap3, hFr, _, _, _⟩ := hF
      have p3 : wr.cell? ⟨w.heap.size, 4, none⟩ = some (.int .u64 a) := by rw [← add_sub a b (by omega) (by omega)]; exact hFr.r 3 (by omega)
      have p4 : wr.cell? ⟨w.heap.size, 5, none⟩ = some (.int .u64 a) := by rw [← xor_twice a b h1 h3]; exact hFr.r 4 (by omega)
      have p5 : wr.cell? ⟨w.heap.size, 6, none⟩ = some (.int .u64 (flagF (decide ((a : Int) < b)))) := hFr.r 5 (by omega)
      have p6 : wr.cell? ⟨w.heap.size, 7, none⟩ = some (.int .u64 (flagF (decide ((b : Int) < a)))) := hFr.r 6 (by omega)
      have p7 : wr.cell? ⟨w.heap.size, 8, none⟩ = some (.int .u64 (flagF ((a : Int) == b))) := hFr.r 7 (by omega)
      have p8 : wr.cell? ⟨w.heap.size, 9, none⟩ = some (.int .u64 (bits .and .u64 a b)) := hFr.r 8 (by omega)
      have p9 : wr.cell? ⟨w.heap.size, 10, none⟩ = some (.int .u64 (bits .or .u64 a b)) := hFr.r 9 (by omega)
      have hsh : shiftBy ((b : Int) % 64) = shiftBy b := by rw [shiftBy_eq _ (by omega) (by omega), shiftBy_eq _ (by omega) (by omega)]; omega
      have p10 : wr.cell? ⟨w.heap.size, 11, none⟩ = some (.int .u64 (IntKind.u64.wrap (a * 2 ^ min (shiftBy b).toNat 64))) := hFr.r 10 (by omega)
      have p11 : wr.cell? ⟨w.heap.size, 12, none⟩ = some (.int .u64 (IntKind.u64.wrap (a * 2 ^ min (shiftBy b).toNat 64))) := by rw [← hsh]; rw [hsh] ; have h := hFr.r 11 (by omega); have e : (r12V a b).getD 11 0 = IntKind.u64.wrap (a * 2 ^ min (shiftBy ((b : Int) % 64)).toNat 64) := rfl; rw [e, hsh] at h; exact h
      have p12 : wr.cell? ⟨w.heap.size, 13, none⟩ = some (.int .u64 (a / 2 ^ min (shiftBy b).toNat 64)) := hFr.r 12 (by omega)
      have s1 := flags_one a b
      have s2 := and_or_u64 a b h1 h3
      generalize flagF (decide ((a : Int) < b)) = u5 at p5 s1
      generalize flagF (decide ((b : Int) < a)) = u6 at p6 s1
      generalize flagF ((a : Int) == b) = u7 at p7 s1
      generalize bits .and .u64 (a : Int) b = u8 at p8 s2
      generalize bits .or .u64 (a : Int) b = u9 at p9 s2
      generalize IntKind.u64.wrap (a * 2 ^ min (shiftBy b).toNat 64) = u10 at p10 p11
      clear hFr
      have hb64 : (0 : Int) ≤ (b : Int) % 64 := by omega
      obtain ⟨s, hs⟩ : ∃ s, ((b : Int) % 64).toNat = s := ⟨_, rfl⟩
      have hs64 : s < 64 := by omega
      have hmin : min s 64 = s := by omega
      have htm : ((b : Int)).tmod 64 = (b : Int) % 64 := Int.tmod_eq_emod_of_nonneg (by omega)
      obtain ⟨P, hP1, hP, hV⟩ : ∃ P : Int, 1 ≤ P ∧ IntKind.u64.wrap ((2 : Int) ^ s) = P ∧ (a : Int) / 2 ^ min (shiftBy b).toNat 64 = (a : Int) / P := by
        have e1 : (shiftBy (b : Int)).toNat = s := by rw [shiftBy_eq _ (by omega) (by omega)]; exact hs
        have e2 : (2 : Int) ^ s = ((2 ^ s : Nat) : Int) := by simp
        have e3 : 2 ^ s < 2 ^ 64 := Nat.pow_lt_pow_right (by omega) hs64
        have e4 : 0 < 2 ^ s := Nat.pow_pos (by omega)
        refine ⟨((2 ^ s : Nat) : Int), by omega, ?_, by rw [e1, hmin, e2]⟩
        rw [e2]
        exact IntWalk.u64_in _ ⟨by omega, by omega⟩
      rw [hV] at p12
      have hPb : (P == 0) = false := beq_eq_false_iff_ne.2 (by omega)
      have hPn : ¬ P = 0 := by omega
      have hV0 : 0 ≤ (a : Int) / P := Int.ediv_nonneg (by omega) (by omega)
      have hV1 : (a : Int) / P ≤ a := Int.ediv_le_self _ (by omega)
      have hq1 : ((a : Int)).tdiv P = (a : Int) / P := Int.tdiv_eq_ediv_of_nonneg (by omega)
      have hq2 : IntKind.u64.wrap ((a : Int) / P) = (a : Int) / P := IntWalk.u64_in _ ⟨hV0, by omega⟩
      generalize (a : Int) / P = V at p12 hq1 hq2 hV0 hV1
      clear hV hsh hV0 hV1
      go_wp2_with fail
      have XD := Lib.hid (show Ext w wr.drew from X.out.drew)
      go_still_tail 80, (by kernel_rfl)
      change wpList _ _ _ _ _ wr.drew
      generalize wr.drew = w9 at XD ⊢
      go_wp2_with (first | (go_at_call 12; refine (vawake _).mono ?_; rintro e w3 ⟨rfl, hx3⟩; have X4 := Lib.hid (XD.out.trans (hx3.mono XD.out.size)); clear hx3))
      go_ret
      exact ⟨rfl, X4.out⟩
end Go.Proofs.Ytbnpieehjabcmaa
