/- The memory of cells: walks of word.Cut, word.Sum at any width, mem.Width, mem.access. -/
import Derived.Test.YtoncebfhkoabaaaDoorV1
import Derived.Deep.RegionHeld3
import Derived.Deep.DeepCutAuto
namespace Go.Proofs.YtoncebfhkoabaaaDoor
open Go.RowKit

def cutF (wd v : Int) : Int := if wd = 32 then bits BinOp.and IntKind.u64 v 4294967295 else if wd = 64 then v else 0
def sumF (wd a b : Int) : Int := cutF wd (IntKind.u64.wrap (cutF wd a + cutF wd b))
theorem cutw_any (wd v : Int) (w : World) : Calls Tryd.prog 63 #[.int .i64 wd, .int .u64 v] w fun e w' => e = .returned (.int .u64 (cutF wd v)) ∧ w = w' := by
  unfold cutF
  by_cases h1 : wd = 32
  · subst h1
    rw [if_pos rfl]
    go_enter Tryd.func63, Tryd.ntmps63
    go_wp2
    go_ret
    exact ⟨rfl, rfl⟩
  · rw [if_neg h1]
    by_cases h2 : wd = 64
    · subst h2
      rw [if_pos rfl]
      exact cut_any v w
    · rw [if_neg h2]
      have k1 : (wd == 32) = false := beq_eq_false_iff_ne.2 h1
      have k2 : (wd == 64) = false := beq_eq_false_iff_ne.2 h2
      clear h1 h2
      go_enter Tryd.func63, Tryd.ntmps63
      go_wp2
      go_ret
      exact ⟨rfl, rfl⟩
theorem sumw_any (wd a b : Int) (w : World) : Calls Tryd.prog 49 #[.int .i64 wd, .int .u64 a, .int .u64 b] w fun e w' => e = .returned (.int .u64 (sumF wd a b)) ∧ w = w' := by
  go_enter Tryd.func49, Tryd.ntmps49
  go_wp2_with (first | (go_at_call 63; refine (cutw_any _ _ _).mono ?_; rintro e w' ⟨rfl, rfl⟩))
  go_ret
  exact ⟨rfl, rfl⟩

/-- A memory of cells: its struct in block m, its cells in block c, their widths in block d. -/
structure MemAt (w : World) (m c d : Nat) (cs ws : List Int) (th ct : Int) : Prop where
  len : ws.length = cs.length
  big : cs.length ≤ 65536
  pc : w.cell? ⟨m, 0, none⟩ = some (.slice (some ⟨c, 0, none⟩) cs.length cs.length)
  pd : w.cell? ⟨m, 1, none⟩ = some (.slice (some ⟨d, 0, none⟩) cs.length cs.length)
  hth : w.cell? ⟨m, 2, none⟩ = some (.int .i64 th)
  hct : w.cell? ⟨m, 3, none⟩ = some (.int .i64 ct)
  hcs : ∀ i, i < cs.length → w.cell? ⟨c, i, none⟩ = some (.int .u64 (cs.getD i 0))
  hws : ∀ i, i < cs.length → w.cell? ⟨d, i, none⟩ = some (.int .u8 (ws.getD i 0))
  fm : ∀ i, i < 4 → w.frozen? ⟨m, i, none⟩ = false
  fc : ∀ i, i < cs.length → w.frozen? ⟨c, i, none⟩ = false
  fd : ∀ i, i < cs.length → w.frozen? ⟨d, i, none⟩ = false
  mc : m ≠ c
  md : m ≠ d
  cd : c ≠ d
  lm : m < w.heap.size
  lc : c < w.heap.size
  ld : d < w.heap.size
  wd : ∀ i, i < cs.length → 0 ≤ ws.getD i 0 ∧ ws.getD i 0 < 256
section
variable {w w' : World} {m c d : Nat} {cs ws : List Int} {th ct : Int}
theorem MemAt.upto {S : Nat → Prop} (h : MemAt w m c d cs ws th ct) (hu : Upto S w w') (h1 : ¬ S m) (h2 : ¬ S c) (h3 : ¬ S d) : MemAt w' m c d cs ws th ct :=
  ⟨h.len, h.big, (hu.cell (p := ⟨m, _, none⟩) h.lm h1).trans h.pc, (hu.cell (p := ⟨m, _, none⟩) h.lm h1).trans h.pd, (hu.cell (p := ⟨m, _, none⟩) h.lm h1).trans h.hth, (hu.cell (p := ⟨m, _, none⟩) h.lm h1).trans h.hct,
   fun i hi => (hu.cell (p := ⟨c, _, none⟩) h.lc h2).trans (h.hcs i hi), fun i hi => (hu.cell (p := ⟨d, _, none⟩) h.ld h3).trans (h.hws i hi),
   fun i hi => (hu.frozen (p := ⟨m, _, none⟩) h.lm h1).trans (h.fm i hi), fun i hi => (hu.frozen (p := ⟨c, _, none⟩) h.lc h2).trans (h.fc i hi), fun i hi => (hu.frozen (p := ⟨d, _, none⟩) h.ld h3).trans (h.fd i hi),
   h.mc, h.md, h.cd, Nat.lt_of_lt_of_le h.lm hu.size, Nat.lt_of_lt_of_le h.lc hu.size, Nat.lt_of_lt_of_le h.ld hu.size, h.wd⟩
theorem MemAt.ext (h : MemAt w m c d cs ws th ct) (hx : Ext w w') : MemAt w' m c d cs ws th ct := h.upto (S := fun _ => False) (Upto.of_ext hx) (fun h => h) (fun h => h) (fun h => h)
theorem MemAt.setCt (h : MemAt w m c d cs ws th ct) (v : Int) : MemAt (w.setCell ⟨m, 3, none⟩ (.int .i64 v)) m c d cs ws th v :=
  ⟨h.len, h.big, (World.cell?_setCell_other _ _ _ _ (by simp)).trans h.pc, (World.cell?_setCell_other _ _ _ _ (by simp)).trans h.pd, (World.cell?_setCell_other _ _ _ _ (by simp)).trans h.hth, World.cell?_setCell_same _ _ _ h.hct,
   fun i hi => (World.cell?_setCell_far _ _ _ _ h.mc).trans (h.hcs i hi), fun i hi => (World.cell?_setCell_far _ _ _ _ h.md).trans (h.hws i hi),
   fun i hi => by rw [World.frozen?_setCell]; exact h.fm i hi, fun i hi => by rw [World.frozen?_setCell]; exact h.fc i hi, fun i hi => by rw [World.frozen?_setCell]; exact h.fd i hi,
   h.mc, h.md, h.cd, by simpa using h.lm, by simpa using h.lc, by simpa using h.ld, h.wd⟩
theorem getD_set (l : List Int) (k i : Nat) (v : Int) (hk : k < l.length) : (l.set k v).getD i 0 = if i = k then v else l.getD i 0 := by
  by_cases e : i = k
  · subst e; simp [List.getD_eq_getElem?_getD, hk]
  · simp [List.getD_eq_getElem?_getD, Ne.symm e, e]
theorem MemAt.setC (h : MemAt w m c d cs ws th ct) (k : Nat) (hk : k < cs.length) (v : Int) : MemAt (w.setCell ⟨c, k, none⟩ (.int .u64 v)) m c d (cs.set k v) ws th ct := by
  have e : (cs.set k v).length = cs.length := by simp
  refine ⟨by rw [e]; exact h.len, by rw [e]; exact h.big, ?_, ?_, (World.cell?_setCell_far _ _ _ _ h.mc.symm).trans h.hth, (World.cell?_setCell_far _ _ _ _ h.mc.symm).trans h.hct, fun i hi => ?_, fun i hi => ?_,
    fun i hi => by rw [World.frozen?_setCell]; exact h.fm i hi, fun i hi => by rw [World.frozen?_setCell]; exact h.fc i (by omega), fun i hi => by rw [World.frozen?_setCell]; exact h.fd i (by omega), h.mc, h.md, h.cd, by simpa using h.lm, by simpa using h.lc, by simpa using h.ld, fun i hi => h.wd i (by omega)⟩
  · rw [e]; exact (World.cell?_setCell_far _ _ _ _ h.mc.symm).trans h.pc
  · rw [e]; exact (World.cell?_setCell_far _ _ _ _ h.mc.symm).trans h.pd
  · rw [getD_set _ _ _ _ hk]
    by_cases ei : i = k
    · subst ei; rw [if_pos rfl]; exact World.cell?_setCell_same _ _ _ (h.hcs i (by omega))
    · rw [if_neg ei]; exact (World.cell?_setCell_other _ _ _ _ (by simp <;> omega)).trans (h.hcs i (by omega))
  · exact (World.cell?_setCell_far _ _ _ _ h.cd).trans (h.hws i (by omega))
end

/-- A cell's width; 0: it isn't there. -/
def widthF (ws : List Int) (at_ : Int) : Int := if 0 ≤ at_ ∧ at_ < ws.length then ws.getD at_.toNat 0 else 0
section
variable (m c d : Nat) (cs ws : List Int) (th ct : Int) (w : World)
theorem width_any (a : Int) (h0 : 0 ≤ a) (hM : MemAt w m c d cs ws th ct) : Calls Tryd.prog 62 #[.pointer (some ⟨m, 0, none⟩), .int .u64 a] w fun e w' => e = .returned (.int .i64 (widthF ws a)) ∧ w = w' := by
  have hl := hM.len
  have hbig := hM.big
  unfold widthF
  have p1 := hM.pc
  have p2 := hM.pd
  by_cases h : a < cs.length
  · rw [if_pos ⟨h0, by omega⟩]
    have p3 := hM.hws a.toNat (by omega)
    have p4 := hM.wd a.toNat (by omega)
    generalize ws.getD a.toNat 0 = u at p3 p4 ⊢
    have H := Lib.hid hM
    clear hM hl
    obtain ⟨p5, p6⟩ := p4
    generalize cs.length = n at *
    go_enter Tryd.func62, Tryd.ntmps62
    go_wp2_with fail
    go_ret
    exact ⟨rfl, rfl⟩
  · rw [if_neg (by omega)]
    have H := Lib.hid hM
    clear hM hl
    generalize cs.length = n at *
    go_enter Tryd.func62, Tryd.ntmps62
    go_wp2_with fail
    go_ret
    exact ⟨rfl, rfl⟩
end
end Go.Proofs.YtoncebfhkoabaaaDoor
