/- Walk of vm.access over a memory. -/
import Derived.Test.YtbnpieehjabcmaaV15
import Derived.Test.YtbnpieehjabcmaaV6
namespace Go.Proofs.Ytbnpieehjabcmaa
open Go.RowKit

def kindOf (op : Int) : Int := if op = 17 then 0 else if op = 18 then 1 else if op = 19 then 2 else if op = 20 then 3 else 4
theorem Try.aheadLoad (a : Addr) (w : World) : (nilAhead 218 51 (.pointer (some a)) "Load").run Try.prog w = .ok (some false) w := by kernel_rfl
theorem Try.methodLoad (a : Addr) (w : World) : (Go.method 218 51 (.pointer (some a)) "Load").run Try.prog w = .ok (20, .pointer (some a)) w := by kernel_rfl
theorem Try.aheadStore (a : Addr) (w : World) : (nilAhead 218 51 (.pointer (some a)) "Store").run Try.prog w = .ok (some false) w := by kernel_rfl
theorem Try.methodStore (a : Addr) (w : World) : (Go.method 218 51 (.pointer (some a)) "Store").run Try.prog w = .ok (32, .pointer (some a)) w := by kernel_rfl
theorem Try.aheadSwap (a : Addr) (w : World) : (nilAhead 218 51 (.pointer (some a)) "Swap").run Try.prog w = .ok (some false) w := by kernel_rfl
theorem Try.methodSwap (a : Addr) (w : World) : (Go.method 218 51 (.pointer (some a)) "Swap").run Try.prog w = .ok (69, .pointer (some a)) w := by kernel_rfl
theorem Try.aheadAdd (a : Addr) (w : World) : (nilAhead 218 51 (.pointer (some a)) "Add").run Try.prog w = .ok (some false) w := by kernel_rfl
theorem Try.methodAdd (a : Addr) (w : World) : (Go.method 218 51 (.pointer (some a)) "Add").run Try.prog w = .ok (66, .pointer (some a)) w := by kernel_rfl
theorem Try.aheadCas (a : Addr) (w : World) : (nilAhead 218 51 (.pointer (some a)) "Cas").run Try.prog w = .ok (some false) w := by kernel_rfl
theorem Try.methodCas (a : Addr) (w : World) : (Go.method 218 51 (.pointer (some a)) "Cas").run Try.prog w = .ok (67, .pointer (some a)) w := by kernel_rfl
section
variable (m c d : Nat) (cs ws : List Int) (th ct : Int) (w : World) (b o : Nat) (pc : Int) (r : List Int) (A2 : Option Addr) (n cap : Nat)
set_option maxRecDepth 100000 in
set_option maxHeartbeats 4000000 in
theorem vaccess_17 (x1 x2 x3 v mm wh : Int) (k : Nat) (hF : FrAt w b o pc r A2 n cap) (hM : MemAt w m c d cs ws th ct)
    (ha0 : 0 ≤ x1) (ha1 : x1 < 32) (hlt : k < cs.length) (hw : ws.getD k 0 ≠ 0) (hc0 : 0 ≤ ct) (hc1 : ct ≤ 1000000000000000) (hk : addressF r ⟨17, x1, x2, x3, v, mm, wh⟩ = k) :
    Calls Try.prog 23 #[.pointer (some ⟨b, o, none⟩), insA 17 x1 x2 x3 v mm wh, .iface 51 (.pointer (some ⟨m, 0, none⟩))] w fun e w' =>
      e = .returned (.tuple #[.int .u64 (cs.getD k 0), .nilIface]) ∧ MemAt w' m c d (cs.set k (cs.getD k 0)) ws th (ct + 1) ∧ Upto (fun b => b = m ∨ b = c) w w' := by
  have hr := hF.r x1.toNat (by omega)
  have HK := Lib.hid hk
  have HF := Lib.hid hF
  have HM := Lib.hid hM
  have lb := hF.lt
  have LT := Lib.hid hlt
  have HW := Lib.hid hw
  have na := Try.aheadLoad
  have me := Try.methodLoad
  clear hk hF hM hw hlt
  generalize r.getD x1.toNat 0 = u at hr ⊢
  have CH := fun W X => load_hit m c d cs ws th ct W k (HM.out.ext X) LT.out HW.out hc0 hc1
  generalize hwd : ws.getD k 0 = wd at CH ⊢
  have C := Lib.hid CH
  clear CH hwd
  go_enter Try.func23, Try.ntmps23
  go_wp2_with fail
  go_region_held3 (fun w' => w'.cell? ⟨w.heap.size, 0, none⟩ = some (.int .i64 17) ∧ w'.cell? ⟨w.heap.size, 1, none⟩ = some (.int .i64 x1) ∧ w'.cell? ⟨w.heap.size, 2, none⟩ = some (.int .i64 x2) ∧ w'.cell? ⟨w.heap.size, 3, none⟩ = some (.int .i64 x3) ∧ w'.cell? ⟨w.heap.size, 4, none⟩ = some (.int .u64 v) ∧ w'.cell? ⟨w.heap.size, 5, none⟩ = some (.int .i64 mm) ∧ w'.cell? ⟨w.heap.size, 6, none⟩ = some (.int .i64 wh) ∧ w'.cell? ⟨b, o + 1 + x1.toNat, none⟩ = some (.int .u64 u))
    (first | exact ⟨u0, u1, u2, u3', u4, u5, u6, r1⟩ | go_keep)
    (first
      | (go_at_call 10; refine (address_any b o pc r A2 n cap ⟨17, x1, x2, x3, v, mm, wh⟩ _ (HF.out.ext (ext1 w _).drew)).mono ?_; rintro e w1 ⟨rfl, hx1⟩; rw [HK.out]
         have u0 : w1.cell? ⟨w.heap.size, 0, none⟩ = some (.int .i64 17) := (hx1.cell (p := ⟨w.heap.size, 0, none⟩) (by simp)).trans (by simp)
         have u1 : w1.cell? ⟨w.heap.size, 1, none⟩ = some (.int .i64 x1) := (hx1.cell (p := ⟨w.heap.size, 1, none⟩) (by simp)).trans (by simp)
         have u2 : w1.cell? ⟨w.heap.size, 2, none⟩ = some (.int .i64 x2) := (hx1.cell (p := ⟨w.heap.size, 2, none⟩) (by simp)).trans (by simp)
         have u3' : w1.cell? ⟨w.heap.size, 3, none⟩ = some (.int .i64 x3) := (hx1.cell (p := ⟨w.heap.size, 3, none⟩) (by simp)).trans (by simp)
         have u4 : w1.cell? ⟨w.heap.size, 4, none⟩ = some (.int .u64 v) := (hx1.cell (p := ⟨w.heap.size, 4, none⟩) (by simp)).trans (by simp)
         have u5 : w1.cell? ⟨w.heap.size, 5, none⟩ = some (.int .i64 mm) := (hx1.cell (p := ⟨w.heap.size, 5, none⟩) (by simp)).trans (by simp)
         have u6 : w1.cell? ⟨w.heap.size, 6, none⟩ = some (.int .i64 wh) := (hx1.cell (p := ⟨w.heap.size, 6, none⟩) (by simp)).trans (by simp)
         have hX : Ext w w1 := (ext1 w _).drew.trans (hx1.mono (by simp))
         have r1 : w1.cell? ⟨b, o + 1 + x1.toNat, none⟩ = some (.int .u64 u) := (hX.cell (p := ⟨b, o + 1 + x1.toNat, none⟩) lb).trans hr
         have X1 := Lib.hid hX
         clear hx1 hX))
  go_wp2_with (go_at_call 20; (first | refine (C.out _ X1.out).mono ?_ | refine (C.out _ X1.out.drew).mono ?_); rintro e w2 ⟨rfl, h1, h2⟩; have P1 := Lib.hid h1; have P2 := Lib.hid h2; clear h1 h2)
  go_ret2
  exact ⟨rfl, P1.out, (Upto.of_ext X1.out).trans P2.out⟩
set_option maxRecDepth 100000 in
set_option maxHeartbeats 4000000 in
theorem vaccess_18 (x1 x2 x3 v mm wh : Int) (k : Nat) (hF : FrAt w b o pc r A2 n cap) (hM : MemAt w m c d cs ws th ct)
    (ha0 : 0 ≤ x1) (ha1 : x1 < 32) (hlt : k < cs.length) (hw : ws.getD k 0 ≠ 0) (hc0 : 0 ≤ ct) (hc1 : ct ≤ 1000000000000000) (hk : addressF r ⟨18, x1, x2, x3, v, mm, wh⟩ = k) :
    Calls Try.prog 23 #[.pointer (some ⟨b, o, none⟩), insA 18 x1 x2 x3 v mm wh, .iface 51 (.pointer (some ⟨m, 0, none⟩))] w fun e w' =>
      e = .returned (.tuple #[.int .u64 (r.getD x1.toNat 0), .nilIface]) ∧ MemAt w' m c d (cs.set k (cutF (ws.getD k 0) (r.getD x1.toNat 0))) ws th (ct + 1) ∧ Upto (fun b => b = m ∨ b = c) w w' := by
  have hr := hF.r x1.toNat (by omega)
  have HK := Lib.hid hk
  have HF := Lib.hid hF
  have HM := Lib.hid hM
  have lb := hF.lt
  have LT := Lib.hid hlt
  have HW := Lib.hid hw
  have na := Try.aheadStore
  have me := Try.methodStore
  clear hk hF hM hw hlt
  generalize r.getD x1.toNat 0 = u at hr ⊢
  have CH := fun W X => store_hit m c d cs ws th ct W k u (HM.out.ext X) LT.out HW.out hc0 hc1
  generalize hwd : ws.getD k 0 = wd at CH ⊢
  have C := Lib.hid CH
  clear CH hwd
  go_enter Try.func23, Try.ntmps23
  go_wp2_with fail
  go_region_held3 (fun w' => w'.cell? ⟨w.heap.size, 0, none⟩ = some (.int .i64 18) ∧ w'.cell? ⟨w.heap.size, 1, none⟩ = some (.int .i64 x1) ∧ w'.cell? ⟨w.heap.size, 2, none⟩ = some (.int .i64 x2) ∧ w'.cell? ⟨w.heap.size, 3, none⟩ = some (.int .i64 x3) ∧ w'.cell? ⟨w.heap.size, 4, none⟩ = some (.int .u64 v) ∧ w'.cell? ⟨w.heap.size, 5, none⟩ = some (.int .i64 mm) ∧ w'.cell? ⟨w.heap.size, 6, none⟩ = some (.int .i64 wh) ∧ w'.cell? ⟨b, o + 1 + x1.toNat, none⟩ = some (.int .u64 u))
    (first | exact ⟨u0, u1, u2, u3', u4, u5, u6, r1⟩ | go_keep)
    (first
      | (go_at_call 10; refine (address_any b o pc r A2 n cap ⟨18, x1, x2, x3, v, mm, wh⟩ _ (HF.out.ext (ext1 w _).drew)).mono ?_; rintro e w1 ⟨rfl, hx1⟩; rw [HK.out]
         have u0 : w1.cell? ⟨w.heap.size, 0, none⟩ = some (.int .i64 18) := (hx1.cell (p := ⟨w.heap.size, 0, none⟩) (by simp)).trans (by simp)
         have u1 : w1.cell? ⟨w.heap.size, 1, none⟩ = some (.int .i64 x1) := (hx1.cell (p := ⟨w.heap.size, 1, none⟩) (by simp)).trans (by simp)
         have u2 : w1.cell? ⟨w.heap.size, 2, none⟩ = some (.int .i64 x2) := (hx1.cell (p := ⟨w.heap.size, 2, none⟩) (by simp)).trans (by simp)
         have u3' : w1.cell? ⟨w.heap.size, 3, none⟩ = some (.int .i64 x3) := (hx1.cell (p := ⟨w.heap.size, 3, none⟩) (by simp)).trans (by simp)
         have u4 : w1.cell? ⟨w.heap.size, 4, none⟩ = some (.int .u64 v) := (hx1.cell (p := ⟨w.heap.size, 4, none⟩) (by simp)).trans (by simp)
         have u5 : w1.cell? ⟨w.heap.size, 5, none⟩ = some (.int .i64 mm) := (hx1.cell (p := ⟨w.heap.size, 5, none⟩) (by simp)).trans (by simp)
         have u6 : w1.cell? ⟨w.heap.size, 6, none⟩ = some (.int .i64 wh) := (hx1.cell (p := ⟨w.heap.size, 6, none⟩) (by simp)).trans (by simp)
         have hX : Ext w w1 := (ext1 w _).drew.trans (hx1.mono (by simp))
         have r1 : w1.cell? ⟨b, o + 1 + x1.toNat, none⟩ = some (.int .u64 u) := (hX.cell (p := ⟨b, o + 1 + x1.toNat, none⟩) lb).trans hr
         have X1 := Lib.hid hX
         clear hx1 hX))
  go_wp2_with (go_at_call 32; (first | refine (C.out _ X1.out).mono ?_ | refine (C.out _ X1.out.drew).mono ?_); rintro e w2 ⟨rfl, h1, h2⟩; have P1 := Lib.hid h1; have P2 := Lib.hid h2; clear h1 h2)
  go_ret2
  exact ⟨rfl, P1.out, (Upto.of_ext X1.out).trans P2.out⟩
set_option maxRecDepth 100000 in
set_option maxHeartbeats 4000000 in
theorem vaccess_19 (x1 x2 x3 v mm wh : Int) (k : Nat) (hF : FrAt w b o pc r A2 n cap) (hM : MemAt w m c d cs ws th ct)
    (ha0 : 0 ≤ x1) (ha1 : x1 < 32) (hlt : k < cs.length) (hw : ws.getD k 0 ≠ 0) (hc0 : 0 ≤ ct) (hc1 : ct ≤ 1000000000000000) (hk : addressF r ⟨19, x1, x2, x3, v, mm, wh⟩ = k) :
    Calls Try.prog 23 #[.pointer (some ⟨b, o, none⟩), insA 19 x1 x2 x3 v mm wh, .iface 51 (.pointer (some ⟨m, 0, none⟩))] w fun e w' =>
      e = .returned (.tuple #[.int .u64 (cs.getD k 0), .nilIface]) ∧ MemAt w' m c d (cs.set k (newF 2 (ws.getD k 0) (cs.getD k 0) 0 (r.getD x1.toNat 0))) ws th (ct + 1) ∧ Upto (fun b => b = m ∨ b = c) w w' := by
  have hr := hF.r x1.toNat (by omega)
  have HK := Lib.hid hk
  have HF := Lib.hid hF
  have HM := Lib.hid hM
  have lb := hF.lt
  have LT := Lib.hid hlt
  have HW := Lib.hid hw
  have na := Try.aheadSwap
  have me := Try.methodSwap
  clear hk hF hM hw hlt
  generalize r.getD x1.toNat 0 = u at hr ⊢
  have CH := fun W X => swap_hit m c d cs ws th ct W k u (HM.out.ext X) LT.out HW.out hc0 hc1
  generalize hwd : ws.getD k 0 = wd at CH ⊢
  have C := Lib.hid CH
  clear CH hwd
  go_enter Try.func23, Try.ntmps23
  go_wp2_with fail
  go_region_held3 (fun w' => w'.cell? ⟨w.heap.size, 0, none⟩ = some (.int .i64 19) ∧ w'.cell? ⟨w.heap.size, 1, none⟩ = some (.int .i64 x1) ∧ w'.cell? ⟨w.heap.size, 2, none⟩ = some (.int .i64 x2) ∧ w'.cell? ⟨w.heap.size, 3, none⟩ = some (.int .i64 x3) ∧ w'.cell? ⟨w.heap.size, 4, none⟩ = some (.int .u64 v) ∧ w'.cell? ⟨w.heap.size, 5, none⟩ = some (.int .i64 mm) ∧ w'.cell? ⟨w.heap.size, 6, none⟩ = some (.int .i64 wh) ∧ w'.cell? ⟨b, o + 1 + x1.toNat, none⟩ = some (.int .u64 u))
    (first | exact ⟨u0, u1, u2, u3', u4, u5, u6, r1⟩ | go_keep)
    (first
      | (go_at_call 10; refine (address_any b o pc r A2 n cap ⟨19, x1, x2, x3, v, mm, wh⟩ _ (HF.out.ext (ext1 w _).drew)).mono ?_; rintro e w1 ⟨rfl, hx1⟩; rw [HK.out]
         have u0 : w1.cell? ⟨w.heap.size, 0, none⟩ = some (.int .i64 19) := (hx1.cell (p := ⟨w.heap.size, 0, none⟩) (by simp)).trans (by simp)
         have u1 : w1.cell? ⟨w.heap.size, 1, none⟩ = some (.int .i64 x1) := (hx1.cell (p := ⟨w.heap.size, 1, none⟩) (by simp)).trans (by simp)
         have u2 : w1.cell? ⟨w.heap.size, 2, none⟩ = some (.int .i64 x2) := (hx1.cell (p := ⟨w.heap.size, 2, none⟩) (by simp)).trans (by simp)
         have u3' : w1.cell? ⟨w.heap.size, 3, none⟩ = some (.int .i64 x3) := (hx1.cell (p := ⟨w.heap.size, 3, none⟩) (by simp)).trans (by simp)
         have u4 : w1.cell? ⟨w.heap.size, 4, none⟩ = some (.int .u64 v) := (hx1.cell (p := ⟨w.heap.size, 4, none⟩) (by simp)).trans (by simp)
         have u5 : w1.cell? ⟨w.heap.size, 5, none⟩ = some (.int .i64 mm) := (hx1.cell (p := ⟨w.heap.size, 5, none⟩) (by simp)).trans (by simp)
         have u6 : w1.cell? ⟨w.heap.size, 6, none⟩ = some (.int .i64 wh) := (hx1.cell (p := ⟨w.heap.size, 6, none⟩) (by simp)).trans (by simp)
         have hX : Ext w w1 := (ext1 w _).drew.trans (hx1.mono (by simp))
         have r1 : w1.cell? ⟨b, o + 1 + x1.toNat, none⟩ = some (.int .u64 u) := (hX.cell (p := ⟨b, o + 1 + x1.toNat, none⟩) lb).trans hr
         have X1 := Lib.hid hX
         clear hx1 hX))
  go_wp2_with (go_at_call 69; (first | refine (C.out _ X1.out).mono ?_ | refine (C.out _ X1.out.drew).mono ?_); rintro e w2 ⟨rfl, h1, h2⟩; have P1 := Lib.hid h1; have P2 := Lib.hid h2; clear h1 h2)
  go_ret2
  exact ⟨rfl, P1.out, (Upto.of_ext X1.out).trans P2.out⟩
set_option maxRecDepth 100000 in
set_option maxHeartbeats 4000000 in
theorem vaccess_20 (x1 x2 x3 v mm wh : Int) (k : Nat) (hF : FrAt w b o pc r A2 n cap) (hM : MemAt w m c d cs ws th ct)
    (ha0 : 0 ≤ x1) (ha1 : x1 < 32) (hlt : k < cs.length) (hw : ws.getD k 0 ≠ 0) (hc0 : 0 ≤ ct) (hc1 : ct ≤ 1000000000000000) (hk : addressF r ⟨20, x1, x2, x3, v, mm, wh⟩ = k) :
    Calls Try.prog 23 #[.pointer (some ⟨b, o, none⟩), insA 20 x1 x2 x3 v mm wh, .iface 51 (.pointer (some ⟨m, 0, none⟩))] w fun e w' =>
      e = .returned (.tuple #[.int .u64 (cs.getD k 0), .nilIface]) ∧ MemAt w' m c d (cs.set k (newF 3 (ws.getD k 0) (cs.getD k 0) 0 (r.getD x1.toNat 0))) ws th (ct + 1) ∧ Upto (fun b => b = m ∨ b = c) w w' := by
  have hr := hF.r x1.toNat (by omega)
  have HK := Lib.hid hk
  have HF := Lib.hid hF
  have HM := Lib.hid hM
  have lb := hF.lt
  have LT := Lib.hid hlt
  have HW := Lib.hid hw
  have na := Try.aheadAdd
  have me := Try.methodAdd
  clear hk hF hM hw hlt
  generalize r.getD x1.toNat 0 = u at hr ⊢
  have CH := fun W X => add_hit m c d cs ws th ct W k u (HM.out.ext X) LT.out HW.out hc0 hc1
  generalize hwd : ws.getD k 0 = wd at CH ⊢
  have C := Lib.hid CH
  clear CH hwd
  go_enter Try.func23, Try.ntmps23
  go_wp2_with fail
  go_region_held3 (fun w' => w'.cell? ⟨w.heap.size, 0, none⟩ = some (.int .i64 20) ∧ w'.cell? ⟨w.heap.size, 1, none⟩ = some (.int .i64 x1) ∧ w'.cell? ⟨w.heap.size, 2, none⟩ = some (.int .i64 x2) ∧ w'.cell? ⟨w.heap.size, 3, none⟩ = some (.int .i64 x3) ∧ w'.cell? ⟨w.heap.size, 4, none⟩ = some (.int .u64 v) ∧ w'.cell? ⟨w.heap.size, 5, none⟩ = some (.int .i64 mm) ∧ w'.cell? ⟨w.heap.size, 6, none⟩ = some (.int .i64 wh) ∧ w'.cell? ⟨b, o + 1 + x1.toNat, none⟩ = some (.int .u64 u))
    (first | exact ⟨u0, u1, u2, u3', u4, u5, u6, r1⟩ | go_keep)
    (first
      | (go_at_call 10; refine (address_any b o pc r A2 n cap ⟨20, x1, x2, x3, v, mm, wh⟩ _ (HF.out.ext (ext1 w _).drew)).mono ?_; rintro e w1 ⟨rfl, hx1⟩; rw [HK.out]
         have u0 : w1.cell? ⟨w.heap.size, 0, none⟩ = some (.int .i64 20) := (hx1.cell (p := ⟨w.heap.size, 0, none⟩) (by simp)).trans (by simp)
         have u1 : w1.cell? ⟨w.heap.size, 1, none⟩ = some (.int .i64 x1) := (hx1.cell (p := ⟨w.heap.size, 1, none⟩) (by simp)).trans (by simp)
         have u2 : w1.cell? ⟨w.heap.size, 2, none⟩ = some (.int .i64 x2) := (hx1.cell (p := ⟨w.heap.size, 2, none⟩) (by simp)).trans (by simp)
         have u3' : w1.cell? ⟨w.heap.size, 3, none⟩ = some (.int .i64 x3) := (hx1.cell (p := ⟨w.heap.size, 3, none⟩) (by simp)).trans (by simp)
         have u4 : w1.cell? ⟨w.heap.size, 4, none⟩ = some (.int .u64 v) := (hx1.cell (p := ⟨w.heap.size, 4, none⟩) (by simp)).trans (by simp)
         have u5 : w1.cell? ⟨w.heap.size, 5, none⟩ = some (.int .i64 mm) := (hx1.cell (p := ⟨w.heap.size, 5, none⟩) (by simp)).trans (by simp)
         have u6 : w1.cell? ⟨w.heap.size, 6, none⟩ = some (.int .i64 wh) := (hx1.cell (p := ⟨w.heap.size, 6, none⟩) (by simp)).trans (by simp)
         have hX : Ext w w1 := (ext1 w _).drew.trans (hx1.mono (by simp))
         have r1 : w1.cell? ⟨b, o + 1 + x1.toNat, none⟩ = some (.int .u64 u) := (hX.cell (p := ⟨b, o + 1 + x1.toNat, none⟩) lb).trans hr
         have X1 := Lib.hid hX
         clear hx1 hX))
  go_wp2_with (go_at_call 66; (first | refine (C.out _ X1.out).mono ?_ | refine (C.out _ X1.out.drew).mono ?_); rintro e w2 ⟨rfl, h1, h2⟩; have P1 := Lib.hid h1; have P2 := Lib.hid h2; clear h1 h2)
  go_ret2
  exact ⟨rfl, P1.out, (Upto.of_ext X1.out).trans P2.out⟩
set_option maxRecDepth 100000 in
set_option maxHeartbeats 4000000 in
theorem vaccess_21 (x1 x2 x3 v mm wh : Int) (k : Nat) (hF : FrAt w b o pc r A2 n cap) (hM : MemAt w m c d cs ws th ct)
    (ha0 : 0 ≤ x1) (ha1 : x1 < 32) (hb0 : 0 ≤ x3) (hb1 : x3 < 32) (hlt : k < cs.length) (hw : ws.getD k 0 ≠ 0) (hc0 : 0 ≤ ct) (hc1 : ct ≤ 1000000000000000) (hk : addressF r ⟨21, x1, x2, x3, v, mm, wh⟩ = k) :
    Calls Try.prog 23 #[.pointer (some ⟨b, o, none⟩), insA 21 x1 x2 x3 v mm wh, .iface 51 (.pointer (some ⟨m, 0, none⟩))] w fun e w' =>
      e = .returned (.tuple #[.int .u64 (cs.getD k 0), .nilIface]) ∧ MemAt w' m c d (cs.set k (newF 4 (ws.getD k 0) (cs.getD k 0) (r.getD x1.toNat 0) (r.getD x3.toNat 0))) ws th (ct + 1) ∧ Upto (fun b => b = m ∨ b = c) w w' := by
  have hr := hF.r x1.toNat (by omega)
  have hr3 := hF.r x3.toNat (by omega)
  have HK := Lib.hid hk
  have HF := Lib.hid hF
  have HM := Lib.hid hM
  have lb := hF.lt
  have LT := Lib.hid hlt
  have HW := Lib.hid hw
  have na := Try.aheadCas
  have me := Try.methodCas
  clear hk hF hM hw hlt
  generalize r.getD x1.toNat 0 = u at hr ⊢
  generalize r.getD x3.toNat 0 = u3 at hr3 ⊢
  have CH := fun W X => cas_hit m c d cs ws th ct W k u u3 (HM.out.ext X) LT.out HW.out hc0 hc1
  generalize hwd : ws.getD k 0 = wd at CH ⊢
  have C := Lib.hid CH
  clear CH hwd
  go_enter Try.func23, Try.ntmps23
  go_wp2_with fail
  go_region_held3 (fun w' => w'.cell? ⟨w.heap.size, 0, none⟩ = some (.int .i64 21) ∧ w'.cell? ⟨w.heap.size, 1, none⟩ = some (.int .i64 x1) ∧ w'.cell? ⟨w.heap.size, 2, none⟩ = some (.int .i64 x2) ∧ w'.cell? ⟨w.heap.size, 3, none⟩ = some (.int .i64 x3) ∧ w'.cell? ⟨w.heap.size, 4, none⟩ = some (.int .u64 v) ∧ w'.cell? ⟨w.heap.size, 5, none⟩ = some (.int .i64 mm) ∧ w'.cell? ⟨w.heap.size, 6, none⟩ = some (.int .i64 wh) ∧ w'.cell? ⟨b, o + 1 + x1.toNat, none⟩ = some (.int .u64 u))
    (first | exact ⟨u0, u1, u2, u3', u4, u5, u6, r1⟩ | go_keep)
    (first
      | (go_at_call 10; refine (address_any b o pc r A2 n cap ⟨21, x1, x2, x3, v, mm, wh⟩ _ (HF.out.ext (ext1 w _).drew)).mono ?_; rintro e w1 ⟨rfl, hx1⟩; rw [HK.out]
         have u0 : w1.cell? ⟨w.heap.size, 0, none⟩ = some (.int .i64 21) := (hx1.cell (p := ⟨w.heap.size, 0, none⟩) (by simp)).trans (by simp)
         have u1 : w1.cell? ⟨w.heap.size, 1, none⟩ = some (.int .i64 x1) := (hx1.cell (p := ⟨w.heap.size, 1, none⟩) (by simp)).trans (by simp)
         have u2 : w1.cell? ⟨w.heap.size, 2, none⟩ = some (.int .i64 x2) := (hx1.cell (p := ⟨w.heap.size, 2, none⟩) (by simp)).trans (by simp)
         have u3' : w1.cell? ⟨w.heap.size, 3, none⟩ = some (.int .i64 x3) := (hx1.cell (p := ⟨w.heap.size, 3, none⟩) (by simp)).trans (by simp)
         have u4 : w1.cell? ⟨w.heap.size, 4, none⟩ = some (.int .u64 v) := (hx1.cell (p := ⟨w.heap.size, 4, none⟩) (by simp)).trans (by simp)
         have u5 : w1.cell? ⟨w.heap.size, 5, none⟩ = some (.int .i64 mm) := (hx1.cell (p := ⟨w.heap.size, 5, none⟩) (by simp)).trans (by simp)
         have u6 : w1.cell? ⟨w.heap.size, 6, none⟩ = some (.int .i64 wh) := (hx1.cell (p := ⟨w.heap.size, 6, none⟩) (by simp)).trans (by simp)
         have hX : Ext w w1 := (ext1 w _).drew.trans (hx1.mono (by simp))
         have r1 : w1.cell? ⟨b, o + 1 + x1.toNat, none⟩ = some (.int .u64 u) := (hX.cell (p := ⟨b, o + 1 + x1.toNat, none⟩) lb).trans hr
         have r3 : w1.cell? ⟨b, o + 1 + x3.toNat, none⟩ = some (.int .u64 u3) := (hX.cell (p := ⟨b, o + 1 + x3.toNat, none⟩) lb).trans hr3
         have X1 := Lib.hid hX
         clear hx1 hX))
  go_wp2_with fail
  go_region_with (go_at_call 67; (first | refine (C.out _ X1.out).mono ?_ | refine (C.out _ X1.out.drew).mono ?_); rintro e w2 ⟨rfl, h1, h2⟩; have P1 := Lib.hid h1; have P2 := Lib.hid h2; clear h1 h2)
  all_goals
    go_wp2_with fail
    go_ret2
    first | exact ⟨rfl, P1.out, (Upto.of_ext X1.out).trans P2.out⟩ | exact ⟨rfl, P1.out, (Upto.of_ext X1.out.drew).trans P2.out⟩
end
end Go.Proofs.Ytbnpieehjabcmaa
