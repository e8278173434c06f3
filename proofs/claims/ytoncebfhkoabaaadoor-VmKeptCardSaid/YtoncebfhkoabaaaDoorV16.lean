/- Walk of vm.access over a memory. -/
import Derived.Test.YtoncebfhkoabaaaDoorV15
import Derived.Test.YtoncebfhkoabaaaDoorV6
namespace Go.Proofs.YtoncebfhkoabaaaDoor
open Go.RowKit

def kindOf (op : Int) : Int := if op = 17 then 0 else if op = 18 then 1 else if op = 19 then 2 else if op = 20 then 3 else 4
theorem Tryd.aheadLoad (a : Addr) (w : World) : (nilAhead 275 25 (.pointer (some a)) "Load").run Tryd.prog w = .ok (some false) w := by kernel_rfl
theorem Tryd.methodLoad (a : Addr) (w : World) : (Go.method 275 25 (.pointer (some a)) "Load").run Tryd.prog w = .ok (25, .pointer (some a)) w := by kernel_rfl
theorem Tryd.aheadStore (a : Addr) (w : World) : (nilAhead 275 25 (.pointer (some a)) "Store").run Tryd.prog w = .ok (some false) w := by kernel_rfl
theorem Tryd.methodStore (a : Addr) (w : World) : (Go.method 275 25 (.pointer (some a)) "Store").run Tryd.prog w = .ok (23, .pointer (some a)) w := by kernel_rfl
theorem Tryd.aheadSwap (a : Addr) (w : World) : (nilAhead 275 25 (.pointer (some a)) "Swap").run Tryd.prog w = .ok (some false) w := by kernel_rfl
theorem Tryd.methodSwap (a : Addr) (w : World) : (Go.method 275 25 (.pointer (some a)) "Swap").run Tryd.prog w = .ok (92, .pointer (some a)) w := by kernel_rfl
theorem Tryd.aheadAdd (a : Addr) (w : World) : (nilAhead 275 25 (.pointer (some a)) "Add").run Tryd.prog w = .ok (some false) w := by kernel_rfl
theorem Tryd.methodAdd (a : Addr) (w : World) : (Go.method 275 25 (.pointer (some a)) "Add").run Tryd.prog w = .ok (90, .pointer (some a)) w := by kernel_rfl
theorem Tryd.aheadCas (a : Addr) (w : World) : (nilAhead 275 25 (.pointer (some a)) "Cas").run Tryd.prog w = .ok (some false) w := by kernel_rfl
theorem Tryd.methodCas (a : Addr) (w : World) : (Go.method 275 25 (.pointer (some a)) "Cas").run Tryd.prog w = .ok (91, .pointer (some a)) w := by kernel_rfl
section
variable (m c d : Nat) (cs ws : List Int) (th ct : Int) (w : World) (b o : Nat) (pc : Int) (r : List Int) (A2 : Option Addr) (n cap : Nat)
set_option maxRecDepth 100000 in
set_option maxHeartbeats 4000000 in
theorem vaccess_17 (x1 x2 x3 v mm wh : Int) (k : Nat) (hF : FrAt w b o pc r A2 n cap) (hM : MemAt w m c d cs ws th ct)
    (ha0 : 0 ≤ x1) (ha1 : x1 < 32) (hlt : k < cs.length) (hw : ws.getD k 0 ≠ 0) (hc0 : 0 ≤ ct) (hc1 : ct ≤ 1000000000000000) (hk : addressF r ⟨17, x1, x2, x3, v, mm, wh⟩ = k) :
    Calls Tryd.prog 28 #[.pointer (some ⟨b, o, none⟩), insA 17 x1 x2 x3 v mm wh, .iface 25 (.pointer (some ⟨m, 0, none⟩))] w fun e w' =>
      e = .returned (.tuple #[.int .u64 (cs.getD k 0), .nilIface]) ∧ MemAt w' m c d (cs.set k (cs.getD k 0)) ws th (ct + 1) ∧ Upto (fun b => b = m ∨ b = c) w w' := by
  have hr := hF.r x1.toNat (by omega)
  have HK := Lib.hid hk
  have HF := Lib.hid hF
  have HM := Lib.hid hM
  have lb := hF.lt
  have LT := Lib.hid hlt
  have HW := Lib.hid hw
  have na := Tryd.aheadLoad
  have me := Tryd.methodLoad
  clear hk hF hM hw hlt
  generalize r.getD x1.toNat 0 = u at hr ⊢
  have CH := fun W X => load_hit m c d cs ws th ct W k (HM.out.ext X) LT.out HW.out hc0 hc1
  generalize hwd : ws.getD k 0 = wd at CH ⊢
  have C := Lib.hid CH
  clear CH hwd
  go_enter Tryd.func28, Tryd.ntmps28
  go_wp2_with fail
  go_region_held3 (fun w' => w'.cell? ⟨w.heap.size, 0, none⟩ = some (.int .i64 17) ∧ w'.cell? ⟨w.heap.size, 1, none⟩ = some (.int .i64 x1) ∧ w'.cell? ⟨w.heap.size, 2, none⟩ = some (.int .i64 x2) ∧ w'.cell? ⟨w.heap.size, 3, none⟩ = some (.int .i64 x3) ∧ w'.cell? ⟨w.heap.size, 4, none⟩ = some (.int .u64 v) ∧ w'.cell? ⟨w.heap.size, 5, none⟩ = some (.int .i64 mm) ∧ w'.cell? ⟨w.heap.size, 6, none⟩ = some (.int .i64 wh) ∧ w'.cell? ⟨b, o + 1 + x1.toNat, none⟩ = some (.int .u64 u))
    (first | exact ⟨u0, u1, u2, u3', u4, u5, u6, r1⟩ | go_keep)
    (first
      | (go_at_call 48; refine (address_any b o pc r A2 n cap ⟨17, x1, x2, x3, v, mm, wh⟩ _ (HF.out.ext (ext1 w _).drew)).mono ?_; rintro e w1 ⟨rfl, hx1⟩; rw [HK.out]
         have u0 : w1.cell? ⟨w.heap.size, 0, none⟩ = some (.int .i64 17) := (hx1.cell (p := ⟨w.heap.size, 0, none⟩) (by simp)).trans (by simp)
         have u1 : w1.cell? ⟨w.heap.size, 1, none⟩ = some (.int .i64 x1) := (hx1.cell (p := ⟨w.heap.size, 1, none⟩) (by simp)).trans (by simp)
         have u2 : w1.cell? ⟨w.heap.size, 2, none⟩ = some (.int .i64 x2) := (hx1.cell (p := ⟨w.heap.size, 2, none⟩) (by simp)).trans (by simp)
         have u3' : w1.cell? ⟨w.heap.size, 3, none⟩ = some (.int .i64 x3) := (hx1.cell (p := ⟨w.heap.size, 3, none⟩) (by simp)).trans (by simp)
         have u4 : w1.cell? ⟨w.heap.size, 4, none⟩ = some (.int .u64 v) := (hx1.cell (p := ⟨w.heap.size, 4, none⟩) (by simp)).trans (by simp)
         have u5 : w1.cell? ⟨w.heap.size, 5, none⟩ = some (.int .i64 mm) := (hx1.cell (p := ⟨w.heap.size, 5, none⟩) (by simp)).trans (by simp)
         have u6 : w1.cell? ⟨w.heap.size, 6, none⟩ = some (.int .i64 wh) := (hx1.cell (p := ⟨w.heap.size, 6, none⟩) (by simp)).trans (by simp)
         have hX : Ext w w1 := (ext1 w _).drew.trans (hx1.mono (by simp))
         have r1 : w1.cell? ⟨b, o + 1 + x1.toNat, none⟩ = some (.int .u64 u) := (hX.cell (p := ⟨b, o + 1 + x1.toNat, none⟩) lb).trans hr
         have X1 := Lib.hid hX
         clear hx1 hX))
  go_wp2_with (go_at_call 25; (first | refine (C.out _ X1.out).mono ?_ | refine (C.out _ X1.out.drew).mono ?_); rintro e w2 ⟨rfl, h1, h2⟩; have P1 := Lib.hid h1; have P2 := Lib.hid h2; clear h1 h2)
  go_ret2
  exact ⟨rfl, P1.out, (Upto.of_ext X1.out).trans P2.out⟩
set_option maxRecDepth 100000 in
set_option maxHeartbeats 4000000 in
theorem vaccess_18 (x1 x2 x3 v mm wh : Int) (k : Nat) (hF : FrAt w b o pc r A2 n cap) (hM : MemAt w m c d cs ws th ct)
    (ha0 : 0 ≤ x1) (ha1 : x1 < 32) (hlt : k < cs.length) (hw : ws.getD k 0 ≠ 0) (hc0 : 0 ≤ ct) (hc1 : ct ≤ 1000000000000000) (hk : addressF r ⟨18, x1, x2, x3, v, mm, wh⟩ = k) :
    Calls Tryd.prog 28 #[.pointer (some ⟨b, o, none⟩), insA 18 x1 x2 x3 v mm wh, .iface 25 (.pointer (some ⟨m, 0, none⟩))] w fun e w' =>
      e = .returned (.tuple #[.int .u64 (r.getD x1.toNat 0), .nilIface]) ∧ MemAt w' m c d (cs.set k (cutF (ws.getD k 0) (r.getD x1.toNat 0))) ws th (ct + 1) ∧ Upto (fun b => b = m ∨ b = c) w w' := by
  have hr := hF.r x1.toNat (by omega)
  have HK := Lib.hid hk
  have HF := Lib.hid hF
  have HM := Lib.hid hM
  have lb := hF.lt
  have LT := Lib.hid hlt
  have HW := Lib.hid hw
  have na := Tryd.aheadStore
  have me := Tryd.methodStore
  clear hk hF hM hw hlt
  generalize r.getD x1.toNat 0 = u at hr ⊢
  have CH := fun W X => store_hit m c d cs ws th ct W k u (HM.out.ext X) LT.out HW.out hc0 hc1
  generalize hwd : ws.getD k 0 = wd at CH ⊢
  have C := Lib.hid CH
  clear CH hwd
  go_enter Tryd.func28, Tryd.ntmps28
  go_wp2_with fail
  go_region_held3 (fun w' => w'.cell? ⟨w.heap.size, 0, none⟩ = some (.int .i64 18) ∧ w'.cell? ⟨w.heap.size, 1, none⟩ = some (.int .i64 x1) ∧ w'.cell? ⟨w.heap.size, 2, none⟩ = some (.int .i64 x2) ∧ w'.cell? ⟨w.heap.size, 3, none⟩ = some (.int .i64 x3) ∧ w'.cell? ⟨w.heap.size, 4, none⟩ = some (.int .u64 v) ∧ w'.cell? ⟨w.heap.size, 5, none⟩ = some (.int .i64 mm) ∧ w'.cell? ⟨w.heap.size, 6, none⟩ = some (.int .i64 wh) ∧ w'.cell? ⟨b, o + 1 + x1.toNat, none⟩ = some (.int .u64 u))
    (first | exact ⟨u0, u1, u2, u3', u4, u5, u6, r1⟩ | go_keep)
    (first
      | (go_at_call 48; refine (address_any b o pc r A2 n cap ⟨18, x1, x2, x3, v, mm, wh⟩ _ (HF.out.ext (ext1 w _).drew)).mono ?_; rintro e w1 ⟨rfl, hx1⟩; rw [HK.out]
         have u0 : w1.cell? ⟨w.heap.size, 0, none⟩ = some (.int .i64 18) := (hx1.cell (p := ⟨w.heap.size, 0, none⟩) (by simp)).trans (by simp)
         have u1 : w1.cell? ⟨w.heap.size, 1, none⟩ = some (.int .i64 x1) := (hx1.cell (p := ⟨w.heap.size, 1, none⟩) (by simp)).trans (by simp)
         have u2 : w1.cell? ⟨w.heap.size, 2, none⟩ = some (.int .i64 x2) := (hx1.cell (p := ⟨w.heap.size, 2, none⟩) (by simp)).trans (by simp)
         have u3' : w1.cell? ⟨w.heap.size, 3, none⟩ = some (.int .i64 x3) := (hx1.cell (p := ⟨w.heap.size, 3, none⟩) (by simp)).trans (by simp)
         have u4 : w1.cell? ⟨w.heap.size, 4, none⟩ = some (.int .u64 v) := (hx1.cell (p := ⟨w.heap.size, 4, none⟩) (by simp)).trans (by simp)
         have u5 : w1.cell? ⟨w.heap.size, 5, none⟩ = some (.int .i64 mm) := (hx1.cell (p := ⟨w.heap.size, 5, none⟩) (by simp)).trans (by simp)
         have u6 : w1.cell? ⟨w.heap.size, 6, none⟩ = some (.int .i64 wh) := (hx1.cell (p := ⟨w.heap.size, 6, none⟩) (by simp)).trans (by simp)
         have hX : Ext w w1 := (ext1 w _).drew.trans (hx1.mono (by simp))
         have r1 : w1.cell? ⟨b, o + 1 + x1.toNat, none⟩ = some (.int .u64 u) := (hX.cell (p := ⟨b, o + 1 + x1.toNat, none⟩) lb).trans hr
         have X1 := Lib.hid hX
         clear hx1 hX))
  go_wp2_with (go_at_call 23; (first | refine (C.out _ X1.out).mono ?_ | refine (C.out _ X1.out.drew).mono ?_); rintro e w2 ⟨rfl, h1, h2⟩; have P1 := Lib.hid h1; have P2 := Lib.hid h2; clear h1 h2)
  go_ret2
  exact ⟨rfl, P1.out, (Upto.of_ext X1.out).trans P2.out⟩
set_option maxRecDepth 100000 in
set_option maxHeartbeats 4000000 in
theorem vaccess_19 (x1 x2 x3 v mm wh : Int) (k : Nat) (hF : FrAt w b o pc r A2 n cap) (hM : MemAt w m c d cs ws th ct)
    (ha0 : 0 ≤ x1) (ha1 : x1 < 32) (hlt : k < cs.length) (hw : ws.getD k 0 ≠ 0) (hc0 : 0 ≤ ct) (hc1 : ct ≤ 1000000000000000) (hk : addressF r ⟨19, x1, x2, x3, v, mm, wh⟩ = k) :
    Calls Tryd.prog 28 #[.pointer (some ⟨b, o, none⟩), insA 19 x1 x2 x3 v mm wh, .iface 25 (.pointer (some ⟨m, 0, none⟩))] w fun e w' =>
      e = .returned (.tuple #[.int .u64 (cs.getD k 0), .nilIface]) ∧ MemAt w' m c d (cs.set k (newF 2 (ws.getD k 0) (cs.getD k 0) 0 (r.getD x1.toNat 0))) ws th (ct + 1) ∧ Upto (fun b => b = m ∨ b = c) w w' := by
  have hr := hF.r x1.toNat (by omega)
  have HK := Lib.hid hk
  have HF := Lib.hid hF
  have HM := Lib.hid hM
  have lb := hF.lt
  have LT := Lib.hid hlt
  have HW := Lib.hid hw
  have na := Tryd.aheadSwap
  have me := Tryd.methodSwap
  clear hk hF hM hw hlt
  generalize r.getD x1.toNat 0 = u at hr ⊢
  have CH := fun W X => swap_hit m c d cs ws th ct W k u (HM.out.ext X) LT.out HW.out hc0 hc1
  generalize hwd : ws.getD k 0 = wd at CH ⊢
  have C := Lib.hid CH
  clear CH hwd
  go_enter Tryd.func28, Tryd.ntmps28
  go_wp2_with fail
  go_region_held3 (fun w' => w'.cell? ⟨w.heap.size, 0, none⟩ = some (.int .i64 19) ∧ w'.cell? ⟨w.heap.size, 1, none⟩ = some (.int .i64 x1) ∧ w'.cell? ⟨w.heap.size, 2, none⟩ = some (.int .i64 x2) ∧ w'.cell? ⟨w.heap.size, 3, none⟩ = some (.int .i64 x3) ∧ w'.cell? ⟨w.heap.size, 4, none⟩ = some (.int .u64 v) ∧ w'.cell? ⟨w.heap.size, 5, none⟩ = some (.int .i64 mm) ∧ w'.cell? ⟨w.heap.size, 6, none⟩ = some (.int .i64 wh) ∧ w'.cell? ⟨b, o + 1 + x1.toNat, none⟩ = some (.int .u64 u))
    (first | exact ⟨u0, u1, u2, u3', u4, u5, u6, r1⟩ | go_keep)
    (first
      | (go_at_call 48; refine (address_any b o pc r A2 n cap ⟨19, x1, x2, x3, v, mm, wh⟩ _ (HF.out.ext (ext1 w _).drew)).mono ?_; rintro e w1 ⟨rfl, hx1⟩; rw [HK.out]
         have u0 : w1.cell? ⟨w.heap.size, 0, none⟩ = some (.int .i64 19) := (hx1.cell (p := ⟨w.heap.size, 0, none⟩) (by simp)).trans (by simp)
         have u1 : w1.cell? ⟨w.heap.size, 1, none⟩ = some (.int .i64 x1) := (hx1.cell (p := ⟨w.heap.size, 1, none⟩) (by simp)).trans (by simp)
         have u2 : w1.cell? ⟨w.heap.size, 2, none⟩ = some (.int .i64 x2) := (hx1.cell (p := ⟨w.heap.size, 2, none⟩) (by simp)).trans (by simp)
         have u3' : w1.cell? ⟨w.heap.size, 3, none⟩ = some (.int .i64 x3) := (hx1.cell (p := ⟨w.heap.size, 3, none⟩) (by simp)).trans (by simp)
         have u4 : w1.cell? ⟨w.heap.size, 4, none⟩ = some (.int .u64 v) := (hx1.cell (p := ⟨w.heap.size, 4, none⟩) (by simp)).trans (by simp)
         have u5 : w1.cell? ⟨w.heap.size, 5, none⟩ = some (.int .i64 mm) := (hx1.cell (p := ⟨w.heap.size, 5, none⟩) (by simp)).trans (by simp)
         have u6 : w1.cell? ⟨w.heap.size, 6, none⟩ = some (.int .i64 wh) := (hx1.cell (p := ⟨w.heap.size, 6, none⟩) (by simp)).trans (by simp)
         have hX : Ext w w1 := (ext1 w _).drew.trans (hx1.mono (by simp))
         have r1 : w1.cell? ⟨b, o + 1 + x1.toNat, none⟩ = some (.int .u64 u) := (hX.cell (p := ⟨b, o + 1 + x1.toNat, none⟩) lb).trans hr
         have X1 := Lib.hid hX
         clear hx1 hX))
  go_wp2_with (go_at_call 92; (first | refine (C.out _ X1.out).mono ?_ | refine (C.out _ X1.out.drew).mono ?_); rintro e w2 ⟨rfl, h1, h2⟩; have P1 := Lib.hid h1; have P2 := Lib.hid h2; clear h1 h2)
  go_ret2
  exact ⟨rfl, P1.out, (Upto.of_ext X1.out).trans P2.out⟩
set_option maxRecDepth 100000 in
set_option maxHeartbeats 4000000 in
theorem vaccess_20 (x1 x2 x3 v mm wh : Int) (k : Nat) (hF : FrAt w b o pc r A2 n cap) (hM : MemAt w m c d cs ws th ct)
    (ha0 : 0 ≤ x1) (ha1 : x1 < 32) (hlt : k < cs.length) (hw : ws.getD k 0 ≠ 0) (hc0 : 0 ≤ ct) (hc1 : ct ≤ 1000000000000000) (hk : addressF r ⟨20, x1, x2, x3, v, mm, wh⟩ = k) :
    Calls Tryd.prog 28 #[.pointer (some ⟨b, o, none⟩), insA 20 x1 x2 x3 v mm wh, .iface 25 (.pointer (some ⟨m, 0, none⟩))] w fun e w' =>
      e = .returned (.tuple #[.int .u64 (cs.getD k 0), .nilIface]) ∧ MemAt w' m c d (cs.set k (newF 3 (ws.getD k 0) (cs.getD k 0) 0 (r.getD x1.toNat 0))) ws th (ct + 1) ∧ Upto (fun b => b = m ∨ b = c) w w' := by
  have hr := hF.r x1.toNat (by omega)
  have HK := Lib.hid hk
  have HF := Lib.hid hF
  have HM := Lib.hid hM
  have lb := hF.lt
  have LT := Lib.hid hlt
  have HW := Lib.hid hw
  have na := Tryd.aheadAdd
  have me := Tryd.methodAdd
  clear hk hF hM hw hlt
  generalize r.getD x1.toNat 0 = u at hr ⊢
  have CH := fun W X => add_hit m c d cs ws th ct W k u (HM.out.ext X) LT.out HW.out hc0 hc1
  generalize hwd : ws.getD k 0 = wd at CH ⊢
  have C := Lib.hid CH
  clear CH hwd
  go_enter Tryd.func28, Tryd.ntmps28
  go_wp2_with fail
  go_region_held3 (fun w' => w'.cell? ⟨w.heap.size, 0, none⟩ = some (.int .i64 20) ∧ w'.cell? ⟨w.heap.size, 1, none⟩ = some (.int .i64 x1) ∧ w'.cell? ⟨w.heap.size, 2, none⟩ = some (.int .i64 x2) ∧ w'.cell? ⟨w.heap.size, 3, none⟩ = some (.int .i64 x3) ∧ w'.cell? ⟨w.heap.size, 4, none⟩ = some (.int .u64 v) ∧ w'.cell? ⟨w.heap.size, 5, none⟩ = some (.int .i64 mm) ∧ w'.cell? ⟨w.heap.size, 6, none⟩ = some (.int .i64 wh) ∧ w'.cell? ⟨b, o + 1 + x1.toNat, none⟩ = some (.int .u64 u))
    (first | exact ⟨u0, u1, u2, u3', u4, u5, u6, r1⟩ | go_keep)
    (first
      | (go_at_call 48; refine (address_any b o pc r A2 n cap ⟨20, x1, x2, x3, v, mm, wh⟩ _ (HF.out.ext (ext1 w _).drew)).mono ?_; rintro e w1 ⟨rfl, hx1⟩; rw [HK.out]
         have u0 : w1.cell? ⟨w.heap.size, 0, none⟩ = some (.int .i64 20) := (hx1.cell (p := ⟨w.heap.size, 0, none⟩) (by simp)).trans (by simp)
         have u1 : w1.cell? ⟨w.heap.size, 1, none⟩ = some (.int .i64 x1) := (hx1.cell (p := ⟨w.heap.size, 1, none⟩) (by simp)).trans (by simp)
         have u2 : w1.cell? ⟨w.heap.size, 2, none⟩ = some (.int .i64 x2) := (hx1.cell (p := ⟨w.heap.size, 2, none⟩) (by simp)).trans (by simp)
         have u3' : w1.cell? ⟨w.heap.size, 3, none⟩ = some (.int .i64 x3) := (hx1.cell (p := ⟨w.heap.size, 3, none⟩) (by simp)).trans (by simp)
         have u4 : w1.cell? ⟨w.heap.size, 4, none⟩ = some (.int .u64 v) := (hx1.cell (p := ⟨w.heap.size, 4, none⟩) (by simp)).trans (by simp)
         have u5 : w1.cell? ⟨w.heap.size, 5, none⟩ = some (.int .i64 mm) := (hx1.cell (p := ⟨w.heap.size, 5, none⟩) (by simp)).trans (by simp)
         have u6 : w1.cell? ⟨w.heap.size, 6, none⟩ = some (.int .i64 wh) := (hx1.cell (p := ⟨w.heap.size, 6, none⟩) (by simp)).trans (by simp)
         have hX : Ext w w1 := (ext1 w _).drew.trans (hx1.mono (by simp))
         have r1 : w1.cell? ⟨b, o + 1 + x1.toNat, none⟩ = some (.int .u64 u) := (hX.cell (p := ⟨b, o + 1 + x1.toNat, none⟩) lb).trans hr
         have X1 := Lib.hid hX
         clear hx1 hX))
  go_wp2_with (go_at_call 90; (first | refine (C.out _ X1.out).mono ?_ | refine (C.out _ X1.out.drew).mono ?_); rintro e w2 ⟨rfl, h1, h2⟩; have P1 := Lib.hid h1; have P2 := Lib.hid h2; clear h1 h2)
  go_ret2
  exact ⟨rfl, P1.out, (Upto.of_ext X1.out).trans P2.out⟩
set_option maxRecDepth 100000 in
set_option maxHeartbeats 4000000 in
theorem vaccess_21 (x1 x2 x3 v mm wh : Int) (k : Nat) (hF : FrAt w b o pc r A2 n cap) (hM : MemAt w m c d cs ws th ct)
    (ha0 : 0 ≤ x1) (ha1 : x1 < 32) (hb0 : 0 ≤ x3) (hb1 : x3 < 32) (hlt : k < cs.length) (hw : ws.getD k 0 ≠ 0) (hc0 : 0 ≤ ct) (hc1 : ct ≤ 1000000000000000) (hk : addressF r ⟨21, x1, x2, x3, v, mm, wh⟩ = k) :
    Calls Tryd.prog 28 #[.pointer (some ⟨b, o, none⟩), insA 21 x1 x2 x3 v mm wh, .iface 25 (.pointer (some ⟨m, 0, none⟩))] w fun e w' =>
      e = .returned (.tuple #[.int .u64 (cs.getD k 0), .nilIface]) ∧ MemAt w' m c d (cs.set k (newF 4 (ws.getD k 0) (cs.getD k 0) (r.getD x1.toNat 0) (r.getD x3.toNat 0))) ws th (ct + 1) ∧ Upto (fun b => b = m ∨ b = c) w w' := by
  have hr := hF.r x1.toNat (by omega)
  have hr3 := hF.r x3.toNat (by omega)
  have HK := Lib.hid hk
  have HF := Lib.hid hF
  have HM := Lib.hid hM
  have lb := hF.lt
  have LT := Lib.hid hlt
  have HW := Lib.hid hw
  have na := Tryd.aheadCas
  have me := Tryd.methodCas
  clear hk hF hM hw hlt
  generalize r.getD x1.toNat 0 = u at hr ⊢
  generalize r.getD x3.toNat 0 = u3 at hr3 ⊢
  have CH := fun W X => cas_hit m c d cs ws th ct W k u u3 (HM.out.ext X) LT.out HW.out hc0 hc1
  generalize hwd : ws.getD k 0 = wd at CH ⊢
  have C := Lib.hid CH
  clear CH hwd
  go_enter Tryd.func28, Tryd.ntmps28
  go_wp2_with fail
  go_region_held3 (fun w' => w'.cell? ⟨w.heap.size, 0, none⟩ = some (.int .i64 21) ∧ w'.cell? ⟨w.heap.size, 1, none⟩ = some (.int .i64 x1) ∧ w'.cell? ⟨w.heap.size, 2, none⟩ = some (.int .i64 x2) ∧ w'.cell? ⟨w.heap.size, 3, none⟩ = some (.int .i64 x3) ∧ w'.cell? ⟨w.heap.size, 4, none⟩ = some (.int .u64 v) ∧ w'.cell? ⟨w.heap.size, 5, none⟩ = some (.int .i64 mm) ∧ w'.cell? ⟨w.heap.size, 6, none⟩ = some (.int .i64 wh) ∧ w'.cell? ⟨b, o + 1 + x1.toNat, none⟩ = some (.int .u64 u))
    (first | exact ⟨u0, u1, u2, u3', u4, u5, u6, r1⟩ | go_keep)
    (first
      | (go_at_call 48; refine (address_any b o pc r A2 n cap ⟨21, x1, x2, x3, v, mm, wh⟩ _ (HF.out.ext (ext1 w _).drew)).mono ?_; rintro e w1 ⟨rfl, hx1⟩; rw [HK.out]
         have u0 : w1.cell? ⟨w.heap.size, 0, none⟩ = some (.int .i64 21) := (hx1.cell (p := ⟨w.heap.size, 0, none⟩) (by simp)).trans (by simp)
         have u1 : w1.cell? ⟨w.heap.size, 1, none⟩ = some (.int .i64 x1) := (hx1.cell (p := ⟨w.heap.size, 1, none⟩) (by simp)).trans (by simp)
         have u2 : w1.cell? ⟨w.heap.size, 2, none⟩ = some (.int .i64 x2) := (hx1.cell (p := ⟨w.heap.size, 2, none⟩) (by simp)).trans (by simp)
         have u3' : w1.cell? ⟨w.heap.size, 3, none⟩ = some (.int .i64 x3) := (hx1.cell (p := ⟨w.heap.size, 3, none⟩) (by simp)).trans (by simp)
         have u4 : w1.cell? ⟨w.heap.size, 4, none⟩ = some (.int .u64 v) := (hx1.cell (p := ⟨w.heap.size, 4, none⟩) (by simp)).trans (by simp)
         have u5 : w1.cell? ⟨w.heap.size, 5, none⟩ = some (.int .i64 mm) := (hx1.cell (p := ⟨w.heap.size, 5, none⟩) (by simp)).trans (by simp)
         have u6 : w1.cell? ⟨w.heap.size, 6, none⟩ = some (.int .i64 wh) := (hx1.cell (p := ⟨w.heap.size, 6, none⟩) (by simp)).trans (by simp)
         have hX : Ext w w1 := (ext1 w _).drew.trans (hx1.mono (by simp))
         have r1 : w1.cell? ⟨b, o + 1 + x1.toNat, none⟩ = some (.int .u64 u) := (hX.cell (p := ⟨b, o + 1 + x1.toNat, none⟩) lb).trans hr
         have r3 : w1.cell? ⟨b, o + 1 + x3.toNat, none⟩ = some (.int .u64 u3) := (hX.cell (p := ⟨b, o + 1 + x3.toNat, none⟩) lb).trans hr3
         have X1 := Lib.hid hX
         clear hx1 hX))
  go_wp2_with fail
  go_region_with (go_at_call 91; (first | refine (C.out _ X1.out).mono ?_ | refine (C.out _ X1.out.drew).mono ?_); rintro e w2 ⟨rfl, h1, h2⟩; have P1 := Lib.hid h1; have P2 := Lib.hid h2; clear h1 h2)
  all_goals
    go_wp2_with fail
    go_ret2
    first | exact ⟨rfl, P1.out, (Upto.of_ext X1.out).trans P2.out⟩ | exact ⟨rfl, P1.out, (Upto.of_ext X1.out.drew).trans P2.out⟩
end
end Go.Proofs.YtoncebfhkoabaaaDoor
