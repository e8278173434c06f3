/- errors.is, errors.Is at an error of package api (a chain of places around a kind), and distaffkeep.kind, by contracts. -/
import Derived.Test.YtoncebfhkoabaaaDoorB1
namespace Go.Proofs.YtoncebfhkoabaaaDoor
open Go.RowKit Go.Extern.Stop Go.Stop Go.Extern

/-- An error in the world W: its places (the outermost first) and its kind. -/
inductive Chain (W : World) : Value → List (ByteArray × Int) → Int → Prop
  | leaf (k : Int) : Chain W (.iface 55 (.int .i64 k)) [] k
  | at_ (b : Nat) (l : ByteArray) (n : Int) (E : Value) (ls : List (ByteArray × Int)) (k : Int) : W.cell? ⟨b, 0, none⟩ = some (.string l) → W.cell? ⟨b, 1, none⟩ = some (.int .i64 n) → W.cell? ⟨b, 2, none⟩ = some E → Chain W E ls k → Chain W (.iface 88 (.pointer (some ⟨b, 0, none⟩))) ((l, n) :: ls) k

theorem Chain.unique {W : World} {E : Value} {l l' : List (ByteArray × Int)} {k k' : Int} (h : Chain W E l k) (h' : Chain W E l' k') : l = l' ∧ k = k' := by
  induction h generalizing l' k' with
  | leaf k => cases h'; exact ⟨rfl, rfl⟩
  | at_ b l n E ls k h0 h1 h2 h3 ih =>
    cases h' with
    | at_ _ l2 n2 E2 ls2 _ g0 g1 g2 g3 =>
      rw [h0] at g0; rw [h1] at g1; rw [h2] at g2
      cases g0; cases g1; cases g2
      obtain ⟨rfl, rfl⟩ := ih g3
      exact ⟨rfl, rfl⟩

open Classical in
noncomputable def chainLen (W : World) (E : Value) : Nat := if h : ∃ l k, Chain W E l k then h.choose.length else 0
theorem chainLen_eq {W : World} {E : Value} {l : List (ByteArray × Int)} {k : Int} (h : Chain W E l k) : chainLen W E = l.length := by
  unfold chainLen
  have hx : ∃ l k, Chain W E l k := ⟨l, k, h⟩
  rw [dif_pos hx]
  obtain ⟨k', hk'⟩ := hx.choose_spec
  rw [(Chain.unique hk' h).1]

set_option maxRecDepth 1000000 in
theorem is_chain {W : World} (t : Int) (E : Value) (l : List (ByteArray × Int)) (k : Int) (hch : Chain W E l k) :
    Calls Tryd.prog 67 #[E, .iface 55 (.int .i64 t), .bool true] W fun e w' => e = .returned (.bool (k == t)) ∧ W = w' := by
  obtain ⟨i, hi, hcmp⟩ := Option.map_eq_some_iff.1 Tryd.errComp
  have nA := Tryd.noIsA
  have uA := Tryd.hasUnwrapA
  have mU := Tryd.methodUnwrapA
  have nE := Tryd.noIsE
  have uE := Tryd.noUnwrapE
  have vE := Tryd.noUnwrapsE
  go_enter Tryd.func67, Tryd.ntmps67
  go_wp2
  go_loopw [0] (fun E' wl => W = wl ∧ ∃ l', Chain W E' l' k) (fun E' _ => chainLen W E')
  case atStart => exact ⟨rfl, l, hch⟩
  case round =>
    obtain ⟨rfl, l', hc'⟩ := hrel
    cases hc' with
    | leaf =>
      have heq := run_eql_iface_int (P := Tryd.prog) W k t Tryd.underlying37 Tryd.underlying55 hi hcmp
      go_wp2
      all_goals (go_ret; refine ⟨?_, rfl⟩; simp_all)
    | at_ b l n E1 ls k h0 h1 h2 h3 =>
      have hty := run_eql_iface_types (P := Tryd.prog) 88 55 (.pointer (some ⟨b, 0, none⟩)) (.int .i64 t) Tryd.underlying37 (by decide) W
      have hlen := chainLen_eq h3
      have hlen0 := chainLen_eq (Chain.at_ b l n E1 ls k h0 h1 h2 h3)
      have hne : ∃ u v, E1 = .iface u v := by cases h3 <;> exact ⟨_, _, rfl⟩
      obtain ⟨u1, v1, rfl⟩ := hne
      have HC := Lib.hid h3
      have HL := Lib.hid hlen
      have HL0 := Lib.hid hlen0
      clear h3 hlen hlen0
      go_wp2
      go_roundw
      case rel => exact ⟨trivial, ls, HC.out⟩
      case measure =>
        show chainLen _ (.iface u1 v1) < chainLen _ (.iface 88 (.pointer (some ⟨b, 0, none⟩)))
        rw [HL.out, HL0.out]; simp

set_option maxRecDepth 1000000 in
theorem is_any {W : World} (t : Int) (u : TypeId) (v : Value) (l : List (ByteArray × Int)) (k : Int) (hch : Chain W (.iface u v) l k) :
    Calls Tryd.prog 57 #[.iface u v, .iface 55 (.int .i64 t)] W fun e w' => e = .returned (.bool (k == t)) ∧ W = w' := by
  have h45 := @run_callFunc_extern Tryd.prog 66 _ Extern.ReflectliteType.typeOf Tryd.func66 (by kernel_rfl) (by kernel_rfl) (by kernel_rfl) (by kernel_rfl)
  have h74 := @run_callFunc_extern Tryd.prog 102 _ Tryd.entry74 Tryd.func102 (by kernel_rfl) (by kernel_rfl) (by kernel_rfl) (by kernel_rfl)
  have tT := Tryd.errTypeOf
  have cT := Tryd.errComparable
  have mR := Tryd.methodComparable
  have H := Lib.hid hch
  clear hch
  go_enter Tryd.func57, Tryd.ntmps57
  go_wp2_with (first | (go_at_call 67; refine (is_chain t _ l k H.out).mono ?_; rintro e w' ⟨rfl, rfl⟩))
  go_ret
  exact ⟨rfl, rfl⟩

set_option maxHeartbeats 2000000 in
theorem kind_any {W : World} (u : TypeId) (v : Value) (l : List (ByteArray × Int)) (k : Int) (h1 : 1 ≤ k) (h2 : k ≤ 10) (hch : Chain W (.iface u v) l k) :
    Calls Tryd.prog 38 #[.iface u v] W fun e w' => e = .returned (.int .i64 k) ∧ W = w' := by
  have H := Lib.hid hch
  clear hch
  go_enter Tryd.func38, Tryd.ntmps38
  go_wp2_with fail
  go_loop [3, 4] (fun f c => ∃ j : Int, 1 ≤ j ∧ j ≤ 11 ∧ c = .int .i64 j ∧ f = .int .i64 (if k < j then k else 0)) (fun _ c => (11 - intOf c).toNat)
  case atStart => exact ⟨1, by omega, by omega, rfl, by rw [if_neg (by omega)]⟩
  case round =>
    obtain ⟨j, hj1, hj2, rfl, rfl⟩ := hrel
    by_cases hj : j ≤ 10
    · by_cases hk : k = j
      · have hb : (k == j) = true := beq_iff_eq.2 hk
        have hlt : ¬ k < j := by omega
        have H2 := Lib.hid hk
        clear hk
        go_wp2_with (first | (go_at_call 57; refine (is_any j u v l k H.out).mono ?_; rintro e w' ⟨rfl, rfl⟩))
        refine ⟨⟨j + 1, by omega, by omega, rfl, congrArg (Value.int .i64) ?_⟩, by simp [intOf]; omega⟩
        have := H2.out
        rw [if_pos (by omega)]; omega
      · have hb : (k == j) = false := beq_eq_false_iff_ne.2 hk
        by_cases hlt : k < j
        all_goals go_wp2_with (first | (go_at_call 57; refine (is_any j u v l k H.out).mono ?_; rintro e w' ⟨rfl, rfl⟩))
        · refine ⟨⟨j + 1, by omega, by omega, rfl, congrArg (Value.int .i64) ?_⟩, by simp [intOf]; omega⟩
          rw [if_pos (by omega)]
        · refine ⟨⟨j + 1, by omega, by omega, rfl, congrArg (Value.int .i64) ?_⟩, by simp [intOf]; omega⟩
          rw [if_neg (by omega), if_neg (by omega)]
    · have hj11 : j = 11 := by omega
      subst hj11
      have hlt : k < 11 := by omega
      go_wp2_with fail
      go_ret
      exact ⟨rfl, rfl⟩

end Go.Proofs.YtoncebfhkoabaaaDoor
