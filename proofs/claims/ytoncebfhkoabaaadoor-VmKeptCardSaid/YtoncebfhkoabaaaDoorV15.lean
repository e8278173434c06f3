/- The memory's methods at a cell that is there, and at one that is not. -/
import Derived.Test.YtoncebfhkoabaaaDoorV9
namespace Go.Proofs.YtoncebfhkoabaaaDoor
open Go.RowKit
def missW (w : World) (a : Int) : World := w.alloc (.cells #[.string memS, .int .i64 (missN a), .iface 55 (.int .i64 2)] 92)
section
variable (m c d : Nat) (cs ws : List Int) (th ct : Int) (w : World)
theorem swap_hit (k : Nat) (v : Int) (hM : MemAt w m c d cs ws th ct) (hlt : k < cs.length) (hw : ws.getD k 0 ≠ 0) (hc0 : 0 ≤ ct) (hc1 : ct ≤ 1000000000000000) :
    Calls Tryd.prog 92 #[.pointer (some ⟨m, 0, none⟩), .int .u64 k, .int .u64 v] w (AccPost w m c d cs ws th ct k (newF 2 (ws.getD k 0) (cs.getD k 0) 0 v)) := by
  have C := Lib.hid (access_hit m c d cs ws th ct w 2 k 0 v (by omega) hM hlt hw hc0 hc1)
  clear hM hlt hw
  unfold AccPost at *
  go_enter Tryd.func92, Tryd.ntmps92
  go_wp2_with (first | (go_at_call 43; refine C.out.mono ?_; rintro e w' ⟨rfl, h1, h2⟩; have P1 := Lib.hid h1; have P2 := Lib.hid h2; clear h1 h2))
  go_ret2
  exact ⟨rfl, P1.out, P2.out⟩
theorem add_hit (k : Nat) (v : Int) (hM : MemAt w m c d cs ws th ct) (hlt : k < cs.length) (hw : ws.getD k 0 ≠ 0) (hc0 : 0 ≤ ct) (hc1 : ct ≤ 1000000000000000) :
    Calls Tryd.prog 90 #[.pointer (some ⟨m, 0, none⟩), .int .u64 k, .int .u64 v] w (AccPost w m c d cs ws th ct k (newF 3 (ws.getD k 0) (cs.getD k 0) 0 v)) := by
  have C := Lib.hid (access_hit m c d cs ws th ct w 3 k 0 v (by omega) hM hlt hw hc0 hc1)
  clear hM hlt hw
  unfold AccPost at *
  go_enter Tryd.func90, Tryd.ntmps90
  go_wp2_with (first | (go_at_call 43; refine C.out.mono ?_; rintro e w' ⟨rfl, h1, h2⟩; have P1 := Lib.hid h1; have P2 := Lib.hid h2; clear h1 h2))
  go_ret2
  exact ⟨rfl, P1.out, P2.out⟩
theorem cas_hit (k : Nat) (old v : Int) (hM : MemAt w m c d cs ws th ct) (hlt : k < cs.length) (hw : ws.getD k 0 ≠ 0) (hc0 : 0 ≤ ct) (hc1 : ct ≤ 1000000000000000) :
    Calls Tryd.prog 91 #[.pointer (some ⟨m, 0, none⟩), .int .u64 k, .int .u64 old, .int .u64 v] w (AccPost w m c d cs ws th ct k (newF 4 (ws.getD k 0) (cs.getD k 0) old v)) := by
  have C := Lib.hid (access_hit m c d cs ws th ct w 4 k old v (by omega) hM hlt hw hc0 hc1)
  clear hM hlt hw
  unfold AccPost at *
  go_enter Tryd.func91, Tryd.ntmps91
  go_wp2_with (first | (go_at_call 43; refine C.out.mono ?_; rintro e w' ⟨rfl, h1, h2⟩; have P1 := Lib.hid h1; have P2 := Lib.hid h2; clear h1 h2))
  go_ret2
  exact ⟨rfl, P1.out, P2.out⟩
theorem load_miss (a : Int) (hM : MemAt w m c d cs ws th ct) (h0 : 0 ≤ a) (h1 : a < 18446744073709551616) (hw : widthF ws a = 0) :
    Calls Tryd.prog 25 #[.pointer (some ⟨m, 0, none⟩), .int .u64 a] w fun e w' => e = .returned (.tuple #[.int .u64 0, .iface 88 (.pointer (some ⟨w.heap.size, 0, none⟩))]) ∧ w' = missW w a := by
  have C := Lib.hid (access_miss m c d cs ws th ct w 0 a 0 0 hM h0 h1 hw)
  clear hM hw
  unfold missW
  go_enter Tryd.func25, Tryd.ntmps25
  go_wp2_with (first | (go_at_call 43; refine C.out.mono ?_; rintro e w' ⟨rfl, rfl⟩))
  go_ret2
  exact ⟨rfl, rfl⟩
theorem store_miss (a : Int) (v : Int) (hM : MemAt w m c d cs ws th ct) (h0 : 0 ≤ a) (h1 : a < 18446744073709551616) (hw : widthF ws a = 0) :
    Calls Tryd.prog 23 #[.pointer (some ⟨m, 0, none⟩), .int .u64 a, .int .u64 v] w fun e w' => e = .returned (.iface 88 (.pointer (some ⟨w.heap.size, 0, none⟩))) ∧ w' = missW w a := by
  have C := Lib.hid (access_miss m c d cs ws th ct w 1 a 0 v hM h0 h1 hw)
  clear hM hw
  unfold missW
  go_enter Tryd.func23, Tryd.ntmps23
  go_wp2_with (first | (go_at_call 43; refine C.out.mono ?_; rintro e w' ⟨rfl, rfl⟩))
  go_ret
  exact ⟨rfl, rfl⟩
theorem swap_miss (a : Int) (v : Int) (hM : MemAt w m c d cs ws th ct) (h0 : 0 ≤ a) (h1 : a < 18446744073709551616) (hw : widthF ws a = 0) :
    Calls Tryd.prog 92 #[.pointer (some ⟨m, 0, none⟩), .int .u64 a, .int .u64 v] w fun e w' => e = .returned (.tuple #[.int .u64 0, .iface 88 (.pointer (some ⟨w.heap.size, 0, none⟩))]) ∧ w' = missW w a := by
  have C := Lib.hid (access_miss m c d cs ws th ct w 2 a 0 v hM h0 h1 hw)
  clear hM hw
  unfold missW
  go_enter Tryd.func92, Tryd.ntmps92
  go_wp2_with (first | (go_at_call 43; refine C.out.mono ?_; rintro e w' ⟨rfl, rfl⟩))
  go_ret2
  exact ⟨rfl, rfl⟩
theorem add_miss (a : Int) (v : Int) (hM : MemAt w m c d cs ws th ct) (h0 : 0 ≤ a) (h1 : a < 18446744073709551616) (hw : widthF ws a = 0) :
    Calls Tryd.prog 90 #[.pointer (some ⟨m, 0, none⟩), .int .u64 a, .int .u64 v] w fun e w' => e = .returned (.tuple #[.int .u64 0, .iface 88 (.pointer (some ⟨w.heap.size, 0, none⟩))]) ∧ w' = missW w a := by
  have C := Lib.hid (access_miss m c d cs ws th ct w 3 a 0 v hM h0 h1 hw)
  clear hM hw
  unfold missW
  go_enter Tryd.func90, Tryd.ntmps90
  go_wp2_with (first | (go_at_call 43; refine C.out.mono ?_; rintro e w' ⟨rfl, rfl⟩))
  go_ret2
  exact ⟨rfl, rfl⟩
theorem cas_miss (a : Int) (old v : Int) (hM : MemAt w m c d cs ws th ct) (h0 : 0 ≤ a) (h1 : a < 18446744073709551616) (hw : widthF ws a = 0) :
    Calls Tryd.prog 91 #[.pointer (some ⟨m, 0, none⟩), .int .u64 a, .int .u64 old, .int .u64 v] w fun e w' => e = .returned (.tuple #[.int .u64 0, .iface 88 (.pointer (some ⟨w.heap.size, 0, none⟩))]) ∧ w' = missW w a := by
  have C := Lib.hid (access_miss m c d cs ws th ct w 4 a old v hM h0 h1 hw)
  clear hM hw
  unfold missW
  go_enter Tryd.func91, Tryd.ntmps91
  go_wp2_with (first | (go_at_call 43; refine C.out.mono ?_; rintro e w' ⟨rfl, rfl⟩))
  go_ret2
  exact ⟨rfl, rfl⟩
end
end Go.Proofs.YtoncebfhkoabaaaDoor
