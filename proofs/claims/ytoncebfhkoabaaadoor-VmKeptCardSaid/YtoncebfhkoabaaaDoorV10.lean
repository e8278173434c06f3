/- Walk of mem.New. -/
import Derived.Test.YtoncebfhkoabaaaDoorV9
import Derived.Laws.MakeOwn
import Derived.Laws.OwnMore
import Derived.RegionTactic
namespace Go.Proofs.YtoncebfhkoabaaaDoor
open Go.RowKit

theorem run_make_rowM {P : Program} (t e : TypeId) (i : TypeInfo) (z : Value) (ht : P.underlying t = some (.slice e)) (hi : P.info? e = some i) (hz : i.zero = some z)
    (kl kc : IntKind) (n c : Nat) (hnc : n ≤ c) (hbytes : i.bytes * c ≤ 281474976710656) (h63 : c ≤ 9223372036854775807) (w : World) :
    (Instr.makeSlice t (.int kl (n : Int)) (.int kc (c : Int))).run P w = .ok (.slice (some ⟨w.heap.size, 0, none⟩) n c) (w.alloc (.cells (madeCells z.cells (c * i.size)) e)) := by
  have hb : (i.bytes : Int) * (c : Int) ≤ 281474976710656 := by
    have h : ((i.bytes * c : Nat) : Int) ≤ 281474976710656 := by omega
    rwa [Int.natCast_mul] at h
  have hr := run_make (P := P) w t e i z ht hi hz kl kc n c (by omega) (by omega) hb (by omega)
  simp only [Int.toNat_natCast] at hr
  exact hr
theorem Tryd.u64Info : (Tryd.prog.info? 47).map (fun i => (i.zero, i.size, i.bytes)) = some (some (.int .u64 0), 1, 8) := by kernel_rfl
theorem Tryd.u8Info : (Tryd.prog.info? 5).map (fun i => (i.zero, i.size, i.bytes)) = some (some (.int .u8 0), 1, 1) := by kernel_rfl
theorem made_cell (z : Value) (n i : Nat) (h : i < n) : (madeCells #[z] n)[i]? = some z := by
  have h1 := toList_madeCells_one z n
  rw [← Array.getElem?_toList, h1, List.getElem?_replicate, if_pos h]
theorem new_cell {w : World} {z : Value} {n i : Nat} {e : TypeId} (h : i < n) : (w.alloc (.cells (madeCells #[z] n) e)).cell? ⟨w.heap.size, i, none⟩ = some z := by
  rw [World.cell?_alloc_at _ _ _ _ rfl]; exact made_cell z n i h
theorem getD_rep (n i : Nat) : (List.replicate n (0 : Int)).getD i 0 = 0 := by
  rw [List.getD_eq_getElem?_getD, List.getElem?_replicate]; split <;> rfl

section
variable (w : World) (o1 o2 o3 : Obj)
def tri (w : World) (o1 o2 o3 : Obj) : World := (((w.alloc o1).alloc o2).alloc o3).drew
theorem tri_size : (tri w o1 o2 o3).heap.size = w.heap.size + 3 := by show (World.alloc _ _).heap.size = _; simp
theorem tri_0 (i : Nat) : (tri w o1 o2 o3).cell? ⟨w.heap.size, i, none⟩ = (w.alloc o1).cell? ⟨w.heap.size, i, none⟩ := by
  show (World.alloc _ _).cell? _ = _
  rw [World.cell?_alloc_lt _ _ _ (by simp; omega), World.cell?_alloc_lt _ _ _ (by simp)]
theorem tri_1 (i : Nat) : (tri w o1 o2 o3).cell? ⟨w.heap.size + 1, i, none⟩ = ((w.alloc o1).alloc o2).cell? ⟨(w.alloc o1).heap.size, i, none⟩ := by
  show (World.alloc _ _).cell? _ = _
  rw [World.cell?_alloc_lt _ _ _ (by simp)]
  simp
theorem tri_2 (i : Nat) (c : Array Value) (t : TypeId) : (tri w o1 o2 (.cells c t)).cell? ⟨w.heap.size + 1 + 1, i, none⟩ = c[i]? := by
  show (World.alloc _ _).cell? _ = _
  exact World.cell?_alloc_at _ _ _ _ (by simp)
theorem tri_f0 (i : Nat) (c : Array Value) (t : TypeId) : (tri w (.cells c t) o2 o3).frozen? ⟨w.heap.size, i, none⟩ = false := by
  show (World.alloc _ _).frozen? _ = _
  rw [World.frozen?_alloc_old _ _ _ (by simp; omega), World.frozen?_alloc_old _ _ _ (by simp)]
  exact World.frozen?_alloc_new _ _ _ _
theorem tri_f1 (i : Nat) (c : Array Value) (t : TypeId) : (tri w o1 (.cells c t) o3).frozen? ⟨w.heap.size + 1, i, none⟩ = false := by
  show (World.alloc _ _).frozen? _ = _
  rw [World.frozen?_alloc_old _ _ _ (by simp)]
  exact World.frozen?_alloc_at _ _ _ _ (by simp)
theorem tri_f2 (i : Nat) (c : Array Value) (t : TypeId) : (tri w o1 o2 (.cells c t)).frozen? ⟨w.heap.size + 1 + 1, i, none⟩ = false := by
  show (World.alloc _ _).frozen? _ = _
  exact World.frozen?_alloc_at _ _ _ _ (by simp)
theorem tri_ext : Ext w (tri w o1 o2 o3) := (((Below.refl _ w).alloc (Nat.le_refl _) _).alloc (by simp) _ |>.alloc (by simp; omega) _).drew
end
/-- A fresh memory in three new blocks. -/
theorem mem_new (n : Nat) (hn : n ≤ 65536) (c d m : Nat) (W : World)
    (k0 : W.cell? ⟨m, 0, none⟩ = some (.slice (some ⟨c, 0, none⟩) n n)) (k1 : W.cell? ⟨m, 1, none⟩ = some (.slice (some ⟨d, 0, none⟩) n n)) (k2 : W.cell? ⟨m, 2, none⟩ = some (.int .i64 0)) (k3 : W.cell? ⟨m, 3, none⟩ = some (.int .i64 0))
    (hc : ∀ i, i < n → W.cell? ⟨c, i, none⟩ = some (.int .u64 0)) (hd : ∀ i, i < n → W.cell? ⟨d, i, none⟩ = some (.int .u8 0))
    (fm : ∀ i, W.frozen? ⟨m, i, none⟩ = false) (fc : ∀ i, W.frozen? ⟨c, i, none⟩ = false) (fd : ∀ i, W.frozen? ⟨d, i, none⟩ = false)
    (mc : m ≠ c) (md : m ≠ d) (cd : c ≠ d) (lm : m < W.heap.size) (lc : c < W.heap.size) (ld : d < W.heap.size) : MemAt W m c d (List.replicate n 0) (List.replicate n 0) 0 0 := by
  refine ⟨by simp, by simpa using hn, by simpa using k0, by simpa using k1, k2, k3, fun i hi => ?_, fun i hi => ?_, fun i _ => fm i, fun i _ => fc i, fun i _ => fd i, mc, md, cd, lm, lc, ld, fun i hi => ?_⟩
  · rw [getD_rep]; exact hc i (by simpa using hi)
  · rw [getD_rep]; exact hd i (by simpa using hi)
  · rw [getD_rep]; omega

def NewPost (w : World) (n : Nat) (e : Ending) (w' : World) : Prop := ∃ m c d, e = .returned (.tuple #[.pointer (some ⟨m, 0, none⟩), .nilIface]) ∧ MemAt w' m c d (List.replicate n 0) (List.replicate n 0) 0 0 ∧ w.heap.size ≤ m ∧ w.heap.size ≤ c ∧ w.heap.size ≤ d ∧ Ext w w'
set_option maxHeartbeats 4000000 in
theorem new_any (n : Nat) (h1 : 1 ≤ n) (h2 : n ≤ 65536) (w : World) :
    Calls Tryd.prog 19 #[.int .i64 n] w (NewPost w n) := by
  obtain ⟨i0, hi0, hz0, hz1, hz2⟩ := info_parts Tryd.u64Info
  obtain ⟨i1, hj0, hy0, hy1, hy2⟩ := info_parts Tryd.u8Info
  have hmk := fun W => run_make_rowM (P := Tryd.prog) 23 47 i0 _ Tryd.underlying23 hi0 hz0 .i64 .i64 n n (Nat.le_refl _) (by rw [hz2]; omega) (by omega) W
  have hmj := fun W => run_make_rowM (P := Tryd.prog) 95 5 i1 _ Tryd.underlying95 hj0 hy0 .i64 .i64 n n (Nat.le_refl _) (by rw [hy2]; omega) (by omega) W
  rw [hz1, Nat.mul_one] at hmk
  rw [hy1, Nat.mul_one] at hmj
  clear hi0 hz0 hz1 hz2 hj0 hy0 hy1 hy2
  have hn1 : ¬ (n : Int) < 1 := by omega
  have hn2 : ¬ (65536 : Int) < (n : Int) := by omega
  go_enter Tryd.func19, Tryd.ntmps19
  go_wp2_with fail
  go_region
  all_goals
    go_wp2_with fail
    go_ret2
  · exact ⟨w.heap.size + 1 + 1, w.heap.size, w.heap.size + 1, rfl,
      mem_new n h2 w.heap.size (w.heap.size + 1) (w.heap.size + 1 + 1) (tri w _ _ _) (by rw [tri_2]; rfl) (by rw [tri_2]; rfl) (by rw [tri_2]; rfl) (by rw [tri_2]; rfl)
        (fun i hi => by rw [tri_0]; exact new_cell hi) (fun i hi => by rw [tri_1]; exact new_cell hi) (fun i => tri_f2 _ _ _ i _ _) (fun i => tri_f0 _ _ _ i _ _) (fun i => tri_f1 _ _ _ i _ _)
        (by omega) (by omega) (by omega) (by rw [tri_size]; omega) (by rw [tri_size]; omega) (by rw [tri_size]; omega), by omega, by omega, by omega, tri_ext _ _ _ _⟩
  · exact ⟨w.heap.size + 1 + 1, w.heap.size + 1, w.heap.size, rfl,
      mem_new n h2 (w.heap.size + 1) w.heap.size (w.heap.size + 1 + 1) (tri w _ _ _) (by rw [tri_2]; rfl) (by rw [tri_2]; rfl) (by rw [tri_2]; rfl) (by rw [tri_2]; rfl)
        (fun i hi => by rw [tri_1]; exact new_cell hi) (fun i hi => by rw [tri_0]; exact new_cell hi) (fun i => tri_f2 _ _ _ i _ _) (fun i => tri_f1 _ _ _ i _ _) (fun i => tri_f0 _ _ _ i _ _)
        (by omega) (by omega) (by omega) (by rw [tri_size]; omega) (by rw [tri_size]; omega) (by rw [tri_size]; omega), by omega, by omega, by omega, tri_ext _ _ _ _⟩
end Go.Proofs.YtoncebfhkoabaaaDoor
