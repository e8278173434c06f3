/- Walks of code.place, code.checked and code.Client. -/
import Derived.Test.YtcbfaobepmhidaaDoorC5
import Derived.Deep.DeepCutAuto
namespace Go.Proofs.YtcbfaobepmhidaaDoor
open Go.RowKit Go.Extern.Stop Go.Stop Go.Extern

/-- errors.As at an *At: the target variable alone is turned. -/
theorem as_hit_keep (e t : Addr) (old : Value) (w : World) (hg : w.cell? ⟨0, 0, none⟩ = some (.iface 97 (.agg #[.pointer (some ⟨1, 26, none⟩)]))) (ht0 : w.cell? t = some old) (hf0 : w.frozen? t = false) :
    Calls Tryd.prog 29 #[.iface 67 (.pointer (some e)), .iface 69 (.pointer (some t))] w fun ev w' => ev = .returned (.bool true) ∧ w'.cell? t = some (.pointer (some e)) ∧ (∀ a v, w.cell? a = some v → a.block ≠ t.block → w'.cell? a = some v) ∧ Below t.block w w' := by
  have hlt := World.block_lt_of_cell? _ _ ht0
  refine (as_hit e t old w hg ht0 hf0).mono ?_
  rintro ev w' ⟨rfl, rfl⟩
  refine ⟨rfl, ?_, ?_, ?_⟩
  · refine World.cell?_setCell_same _ _ _ (u := old) ?_
    rw [World.cell?_alloc_lt _ _ t (by simp; omega), World.cell?_alloc_lt _ _ t (by simp; omega), World.cell?_alloc_lt _ _ t (by simp; omega), World.cell?_alloc_lt _ _ t hlt]; exact ht0
  · intro a v ha hne
    have hla := World.block_lt_of_cell? _ _ ha
    rw [World.cell?_setCell_far _ _ _ _ (Ne.symm hne), World.cell?_alloc_lt _ _ a (by simp; omega), World.cell?_alloc_lt _ _ a (by simp; omega), World.cell?_alloc_lt _ _ a (by simp; omega), World.cell?_alloc_lt _ _ a hla]; exact ha
  · exact ((((((Below.refl _ _).alloc (by omega) _).alloc (by simp; omega) _).alloc (by simp; omega) _).alloc (by simp; omega) _)).setCell (Nat.le_refl _) _

theorem err_leaf (n k : Int) (w : World) : ErrPost (w.alloc (.cells #[.string codeS, .int .i64 n, .iface 44 (.int .i64 k)] 71)) (.iface 67 (.pointer (some ⟨w.heap.size, 0, none⟩))) (some ([(codeS, n)], k)) :=
  ⟨w.heap.size, rfl, .at_ _ _ _ _ [] _ (by simp [go_sem]) (by simp [go_sem]) (by simp [go_sem]) (.leaf k)⟩
theorem err_wrap (n k : Int) (w : World) {E : Value} {ls : List (ByteArray × Int)} (h : Chain w E ls k) : ErrPost (w.alloc (.cells #[.string codeS, .int .i64 n, E] 71)) (.iface 67 (.pointer (some ⟨w.heap.size, 0, none⟩))) (some ((codeS, n) :: ls, k)) :=
  ⟨w.heap.size, rfl, .at_ _ _ _ _ ls _ (by simp [go_sem]) (by simp [go_sem]) (by simp [go_sem]) (Below.chain (ext1 _ _) h)⟩

def placeF (p n : Int) : Ans := if p < 0 ∨ n ≤ p then some ([(codeS, max p 0)], 5) else none
theorem place_any (p n : Int) (w : World) : Calls Tryd.prog 34 #[.int .i64 p, .int .i64 n] w (CheckPost w (placeF p n)) := by
  by_cases h1 : p < 0
  · have e : placeF p n = some ([(codeS, 0)], 5) := by unfold placeF; rw [if_pos (.inl h1), show max p 0 = 0 by omega]
    rw [e]
    clear e
    have hmx : max p 0 = 0 := by omega
    go_enter Tryd.func34, Tryd.ntmps34
    go_wp2_with (first | (go_at_call 30; refine (fail_any _ _ _ _).mono ?_; rintro e w' ⟨rfl, rfl⟩))
    all_goals (go_ret; exact ⟨_, rfl, by first | exact err_leaf _ _ _ | (rw [hmx]; exact err_leaf _ _ _), ext1 _ _⟩)
  · by_cases h2 : n ≤ p
    · have e : placeF p n = some ([(codeS, p)], 5) := by unfold placeF; rw [if_pos (.inr h2), show max p 0 = p by omega]
      rw [e]
      clear e
      have hmx : max p 0 = p := by omega
      go_enter Tryd.func34, Tryd.ntmps34
      go_wp2_with (first | (go_at_call 30; refine (fail_any _ _ _ _).mono ?_; rintro e w' ⟨rfl, rfl⟩))
      all_goals (go_ret; exact ⟨_, rfl, by first | exact err_leaf _ _ _ | (rw [hmx]; exact err_leaf _ _ _), ext1 _ _⟩)
    · have e : placeF p n = none := by unfold placeF; rw [if_neg (by omega)]
      rw [e]
      clear e
      go_enter Tryd.func34, Tryd.ntmps34
      go_wp2_with fail
      go_ret
      exact ⟨_, rfl, rfl, Below.refl _ _⟩

theorem Chain.keepBut {W W' : World} {t : Nat} {q : Option Addr} (ht : W.cell? ⟨t, 0, none⟩ = some (.pointer q)) (hk : ∀ a v, W.cell? a = some v → a.block ≠ t → W'.cell? a = some v) {E : Value} {l : List (ByteArray × Int)} {k : Int} (h : Chain W E l k) : Chain W' E l k := by
  induction h with
  | leaf k => exact .leaf k
  | at_ b l n E ls k h0 h1 h2 _ ih =>
    have hb : b ≠ t := by
      rintro rfl
      have := h0.symm.trans ht
      simp at this
    exact .at_ b l n E ls k (hk _ _ h0 hb) (hk _ _ h1 hb) (hk _ _ h2 hb) ih

/-- A check's answer, wrapped once more with its place. -/
def Ans.wrap : Ans → Ans
  | some (p :: ls, k) => some ((codeS, p.2) :: p :: ls, k)
  | _ => none

theorem checked_any (A : Option Addr) (cap : Nat) (l : List InsD) (lib : Bool) (hm : (l.length : Int) ≤ 9223372036854775807) (w : World) (hi : InsSl w A l) (hg : Gl w) :
    Calls Tryd.prog 33 #[.slice A l.length cap, .bool lib] w (CheckPost w (Ans.wrap (checkF l (fun x => mayF x l.length lib)))) := by
  have HI := Lib.hid hi
  have HG := Lib.hid hg
  have HGood := Lib.hid (checkF_good l (fun x => mayF x l.length lib))
  clear hi hg
  generalize hr : checkF l (fun x => mayF x l.length lib) = r at HGood ⊢
  have HR := Lib.hid hr
  clear hr
  go_enter Tryd.func33, Tryd.ntmps33
  go_wp2_with (first | (go_at_call 13; refine (check_sl A cap l lib hm _ (HI.out.ext (ext1 _ _))).mono ?_; rintro e w1 ⟨v, rfl, hv, hx⟩; rw [HR.out] at hv; have HV := Lib.hid hv; have HX := Lib.hid hx; clear hv hx))
  have ht : w1.cell? ⟨w.heap.size, 0, none⟩ = some (.pointer none) := by rw [HX.out.cell (by simp)]; simp
  have hf : w1.frozen? ⟨w.heap.size, 0, none⟩ = false := by rw [HX.out.frozen (by simp)]; simp
  have XX := Lib.hid (show Ext w w1 from (ext1 w _).trans (HX.out.mono (by simp)))
  have hlt : w.heap.size < w1.heap.size := World.block_lt_of_cell? _ _ ht
  rcases r with _ | ⟨ls, k⟩
  · obtain rfl : v = .nilIface := HV.out
    go_wp2_with (first | (go_at_call 29; refine (as_nil _ _).mono ?_; rintro e w2 ⟨rfl, rfl⟩))
    go_ret
    exact ⟨_, rfl, rfl, XX.out⟩
  · obtain ⟨c, rfl, hc⟩ := HV.out
    obtain ⟨hne, _, _, _⟩ := HGood.out ls k rfl
    have hc0 := hc
    cases hc with
    | at_ _ lb n E ls k h0 h1 h2 hch =>
      have hcw : w.heap.size ≠ c := by
        rintro rfl
        have := h0.symm.trans ht
        simp at this
      go_wp2_with (first
        | (go_at_call 29; refine (as_hit_keep ⟨c, 0, none⟩ ⟨w.heap.size, 0, none⟩ _ _ (Gl.ext HG.out XX.out) ht hf).mono ?_; rintro e w2 ⟨rfl, g0, gk, gx⟩; have g1 := gk _ _ h1 (Ne.symm hcw); have GC := Lib.hid (show Chain w2 (.iface 67 (.pointer (some ⟨c, 0, none⟩))) ((lb, n) :: ls) k from Chain.keepBut ht gk hc0); have X2 := Lib.hid (show Ext w w2 from XX.out.trans gx); clear gk gx)
        | (go_at_call 30; refine (fail_any _ _ _ _).mono ?_; rintro e w' ⟨rfl, rfl⟩))
      go_ret
      exact ⟨_, rfl, err_wrap _ _ _ GC.out, X2.out.trans ((ext1 _ _).mono X2.out.size)⟩
end Go.Proofs.YtcbfaobepmhidaaDoor
