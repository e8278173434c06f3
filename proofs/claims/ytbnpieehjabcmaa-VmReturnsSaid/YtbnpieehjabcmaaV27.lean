/- Walk of VmReturns: true for any depth. -/
import Derived.Test.YtbnpieehjabcmaaV26
namespace Go.Proofs.Ytbnpieehjabcmaa
open Go.RowKit

theorem reads_of {w : World} {A : Option Addr} {l : List InsD} (h : InsSl w A l) : Reads w w.heap.size 7 A l.length (insRow l) := by
  refine ⟨insRow_length l, fun hn => ?_⟩
  obtain ⟨b, off, rfl, hi⟩ := h (by intro e; subst e; simp at hn)
  refine ⟨_, rfl, World.block_lt_of_cell? _ _ (hi 0 hn).1, fun j u hj => ?_⟩
  have := insAt_cell hi j u hj
  unfold Addr.add
  by_cases h0 : j = 0
  · subst h0; simpa using this
  · rw [if_neg h0]; exact this

def jsrs (n : Nat) : List InsD := (List.range n).map fun (i : Nat) => ⟨15, 0, 0, 0, (i : Int) + 1, 0, 0⟩
def codeR (n : Nat) : List InsD := jsrs n ++ [⟨16, 0, 0, 0, 0, 0, 0⟩]
def bkR (n : Nat) : List Int := (List.range n).map fun (i : Nat) => (i : Int) + 1
theorem jsrs_succ (n : Nat) : jsrs (n + 1) = jsrs n ++ [⟨15, 0, 0, 0, (n : Int) + 1, 0, 0⟩] := by simp [jsrs, List.range_succ]
theorem bkR_succ (n : Nat) : bkR (n + 1) = bkR n ++ [(n : Int) + 1] := by simp [bkR, List.range_succ]
theorem jsrs_length (n : Nat) : (jsrs n).length = n := by simp [jsrs]
theorem bkR_length (n : Nat) : (bkR n).length = n := by simp [bkR]
theorem codeR_length (n : Nat) : (codeR n).length = n + 1 := by simp [codeR, jsrs]
theorem codeR_at (n i : Nat) (h : i < n) (h2 : i < (codeR n).length) : (codeR n)[i] = ⟨15, 0, 0, 0, (i : Int) + 1, 0, 0⟩ := by
  simp only [codeR]
  rw [List.getElem_append_left (by rw [jsrs_length]; exact h)]
  simp [jsrs]
theorem codeR_end (n : Nat) (h2 : n < (codeR n).length) : (codeR n)[n] = ⟨16, 0, 0, 0, 0, 0, 0⟩ := by
  simp only [codeR]
  rw [List.getElem_append_right (by rw [jsrs_length]; exact Nat.le_refl _)]
  simp [jsrs_length]
theorem insRow_append (l r : List InsD) : insRow (l ++ r) = insRow l ++ insRow r := by simp [insRow]
theorem reads_one {W : World} {a : Nat} (x : InsD) (h0 : W.cell? ⟨a, 0, none⟩ = some (.int .i64 x.op)) (h1 : W.cell? ⟨a, 1, none⟩ = some (.int .i64 x.a)) (h2 : W.cell? ⟨a, 2, none⟩ = some (.int .i64 x.b)) (h3 : W.cell? ⟨a, 3, none⟩ = some (.int .i64 x.c)) (h4 : W.cell? ⟨a, 4, none⟩ = some (.int .u64 x.v)) (h5 : W.cell? ⟨a, 5, none⟩ = some (.int .i64 x.m)) (h6 : W.cell? ⟨a, 6, none⟩ = some (.int .i64 x.wh)) (_hl : a < W.heap.size) :
    Reads W W.heap.size 7 (some ⟨a, 0, none⟩) 1 (insRow [x]) := by
  have h := reads_of (w := W) (A := some ⟨a, 0, none⟩) (l := [x]) (fun _ => ⟨a, 0, rfl, insAt_one h0 h1 h2 h3 h4 h5 h6⟩)
  exact h
theorem own_ins {w : World} {base c : Nat} {A : Option Addr} {l : List InsD} (n : Nat) (hn : l.length = n) (h : w.ownsRow base 24 7 (.slice A n c) n (insRow l)) (h0 : 0 < n) : ∃ g, A = some ⟨g, 0, none⟩ ∧ base ≤ g ∧ InsAt w g 0 l := by
  subst hn
  obtain ⟨g, cap, hv, hb, hlt⟩ := h.form h0
  have hA : A = some ⟨g, 0, none⟩ := by injection hv
  subst hA
  obtain ⟨b, off, e, hi⟩ := insSl_own h (by intro e; subst e; simp at h0)
  cases e
  exact ⟨_, rfl, hb, hi⟩
theorem vmay_jsr (n i : Nat) (h : i < n) (_h2 : n ≤ 11) : vmayF ⟨15, 0, 0, 0, (i : Int) + 1, 0, 0⟩ ((n + 1 : Nat) : Int) = true := by
  unfold vmayF
  have e : decide (((i : Int) + 1) < ((n + 1 : Nat) : Int)) = true := by simp; omega
  show ((!isJ 15 || decide (((i : Int) + 1) < ((n + 1 : Nat) : Int))) && mayF (bare ⟨15, 0, 0, 0, (i : Int) + 1, 0, 0⟩) 1 (15 != 22)) = true
  rw [e]
  rfl

def r77 : List Int := [0, 0, 0, 0, 0, 77, 0, 0, 0, 0, 0, 0, 0, 0, 0, 0, 0, 0, 0, 0, 0, 0, 0, 0, 0, 0, 0, 0, 0, 0, 0, 0]
section
variable (fb lb cap : Nat) (W : World) (n : Nat)
theorem ret_in (i : Nat) (hn : n ≤ 11) (hi : i < n) (h8 : i < 8) (hF : FrB (· = fb) W fb 0 (i : Nat) r77 (bkR i)) (hI : InsAt W lb 0 (codeR n)) :
    Calls Try.prog 15 #[.pointer (some ⟨fb, 0, none⟩), .slice (some ⟨lb, 0, none⟩) (n + 1) cap, .nilIface] W (StepPost (· = fb) W fb 0 0 (i + 1 : Nat) r77 (bkR (i + 1))) := by
  have hl := codeR_length n
  have h := step_jump (· = fb) fb 0 lb 0 cap (codeR n) r77 (bkR i) .nilIface W i 15 0 0 0 ((i : Int) + 1) 0 0 hF hI (by omega) (by omega) (codeR_at n i hi _) (by rw [hl]; exact vmay_jsr n i hi hn) (by omega) 0 ((i : Int) + 1) r77 (bkR i ++ [(i : Int) + 1])
    (fun W' hx => jumpB_jsr fb 0 i r77 (bkR i) 0 0 0 ((i : Int) + 1) 0 0 W' (hF.ext hx) (by omega) (by omega) (by rw [bkR_length]; exact h8) (by omega) (by omega))
  rw [hl] at h
  rw [bkR_succ]
  exact h
theorem ret_full (i : Nat) (hn : n ≤ 11) (hi : i < n) (h8 : 8 ≤ i) (h9 : i ≤ 20) (hF : FrB (· = fb) W fb 0 (i : Nat) r77 (bkR i)) (hI : InsAt W lb 0 (codeR n)) :
    Calls Try.prog 15 #[.pointer (some ⟨fb, 0, none⟩), .slice (some ⟨lb, 0, none⟩) (n + 1) cap, .nilIface] W (StepPost (· = fb) W fb 0 3 (i : Nat) r77 (bkR i)) := by
  have hl := codeR_length n
  have h := step_jump (· = fb) fb 0 lb 0 cap (codeR n) r77 (bkR i) .nilIface W i 15 0 0 0 ((i : Int) + 1) 0 0 hF hI (by omega) (by omega) (codeR_at n i hi _) (by rw [hl]; exact vmay_jsr n i hi hn) (by omega) 3 i r77 (bkR i)
    (fun W' hx => jumpB_full fb 0 i r77 (bkR i) 0 0 0 ((i : Int) + 1) 0 0 W' (hF.ext hx) (by rw [bkR_length]; exact h8) (by rw [bkR_length]; omega))
  rw [hl] at h
  exact h
theorem ret_back (i : Nat) (hn : n ≤ 11) (hi : i < 20) (hF : FrB (· = fb) W fb 0 (n : Nat) r77 (bkR (i + 1))) (hI : InsAt W lb 0 (codeR n)) :
    Calls Try.prog 15 #[.pointer (some ⟨fb, 0, none⟩), .slice (some ⟨lb, 0, none⟩) (n + 1) cap, .nilIface] W (StepPost (· = fb) W fb 0 0 (i + 1 : Nat) r77 (bkR i)) := by
  have hl := codeR_length n
  rw [bkR_succ] at hF
  have h := step_jump (· = fb) fb 0 lb 0 cap (codeR n) r77 _ .nilIface W n 16 0 0 0 0 0 0 hF hI (by omega) (by omega) (codeR_end n _) rfl (by omega) 0 ((i : Int) + 1) r77 (bkR i)
    (fun W' hx => jumpB_ret fb 0 n ((i : Int) + 1) r77 (bkR i) 0 0 0 0 0 0 W' (hF.ext hx) (by rw [bkR_length]; omega))
  rw [hl] at h
  exact h
theorem ret_home (hn : n ≤ 11) (hF : FrB (· = fb) W fb 0 (n : Nat) r77 (bkR 0)) (hI : InsAt W lb 0 (codeR n)) :
    Calls Try.prog 15 #[.pointer (some ⟨fb, 0, none⟩), .slice (some ⟨lb, 0, none⟩) (n + 1) cap, .nilIface] W (StepPost (· = fb) W fb 0 2 (n : Nat) r77 (bkR 0)) := by
  have hl := codeR_length n
  have h := step_jump (· = fb) fb 0 lb 0 cap (codeR n) r77 _ .nilIface W n 16 0 0 0 0 0 0 hF hI (by omega) (by omega) (codeR_end n _) rfl (by omega) 2 n r77 (bkR 0)
    (fun W' hx => jumpB_home (· = fb) fb 0 n r77 0 0 0 0 0 0 W' (hF.ext hx))
  rw [hl] at h
  exact h
end
end Go.Proofs.Ytbnpieehjabcmaa
