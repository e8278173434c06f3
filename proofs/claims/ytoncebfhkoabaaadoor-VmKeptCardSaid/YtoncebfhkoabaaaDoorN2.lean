import Derived.Test.YtoncebfhkoabaaaDoorV17
import Derived.Test.YtoncebfhkoabaaaDoorV14
import Derived.Test.YtoncebfhkoabaaaDoorK2
/- vm.jump at any set of blocks that may be written over; vm.access at a cell that is not there. -/
namespace Go.Proofs.YtoncebfhkoabaaaDoor
open Go.RowKit Go.Extern.Stop Go.Stop Go.Extern

section
variable (M : Nat → Prop) (b o : Nat) (k : Int) (r bk : List Int) (x1 x2 x3 v m wh : Int) (W : World)
theorem jumpB_cond (op : Int) (hop : op = 13 ∨ op = 14) (hF : FrB M W b o k r bk) (hMb : M b) (h0 : 0 ≤ v) (h1 : v ≤ 1000000000000) (hp0 : 0 ≤ k) (hp1 : k ≤ 1000000000000) (hx0 : 0 ≤ x1) (hx1 : x1 < 32) :
    Calls Tryd.prog 27 #[.pointer (some ⟨b, o, none⟩), insA op x1 x2 x3 v m wh] W fun e w' => e = .returned (.int .i64 0) ∧ FrB M w' b o (if jumps op (r.getD x1.toNat 0) then v else k + 1) r bk ∧ Upto (· = b) W w' := by
  obtain ⟨A, cap, hFr, hB, hc, hM⟩ := hF
  refine (jump_cond b o k r A bk.length cap x1 x2 x3 v m wh W op hop hFr h0 h1 hp0 hp1 hx0 hx1).mono ?_
  rintro e w' ⟨rfl, h2, h3⟩
  exact ⟨rfl, ⟨A, cap, h2, hB.upto h3 (fun hn a e hs => hM hn a e (hs ▸ hMb)), hc, hM⟩, h3⟩
theorem jumpB_jmp (hF : FrB M W b o k r bk) (hMb : M b) (h0 : 0 ≤ v) (h1 : v ≤ 1000000000000) :
    Calls Tryd.prog 27 #[.pointer (some ⟨b, o, none⟩), insA 12 x1 x2 x3 v m wh] W fun e w' => e = .returned (.int .i64 0) ∧ FrB M w' b o v r bk ∧ Upto (· = b) W w' := by
  obtain ⟨A, cap, hFr, hB, hc, hM⟩ := hF
  refine (jump_jmp b o k r A bk.length cap x1 x2 x3 v m wh W hFr h0 h1).mono ?_
  rintro e w' ⟨rfl, h2, h3⟩
  exact ⟨rfl, ⟨A, cap, h2, hB.upto h3 (fun hn a e hs => hM hn a e (hs ▸ hMb)), hc, hM⟩, h3⟩
theorem jumpB_home (hF : FrB M W b o k r []) :
    Calls Tryd.prog 27 #[.pointer (some ⟨b, o, none⟩), insA 16 x1 x2 x3 v m wh] W fun e w' => e = .returned (.int .i64 2) ∧ FrB M w' b o k r [] ∧ Upto (· = b) W w' := by
  have hF' := hF
  obtain ⟨A, cap, hFr, hB, hc, hM⟩ := hF
  refine (jump_ret0 b o k r A cap x1 x2 x3 v m wh W hFr).mono ?_
  rintro e w' ⟨rfl, h2⟩
  exact ⟨rfl, hF'.ext h2, Upto.of_ext h2⟩
end

section
variable (b o : Nat) (pc : Int) (r : List Int) (A : Option Addr) (n cap : Nat) (x1 x2 x3 v m wh : Int) (w : World)
set_option maxRecDepth 100000 in
theorem jump_jsr2 (bk : List Int) (hF : FrAt w b o pc r A bk.length cap) (hB : BackIs w A bk) (h0 : 0 ≤ v) (h1 : v ≤ 1000000000000) (hn8 : bk.length < 8) (hp0 : 0 ≤ pc) (hp1 : pc ≤ 1000000000000) (hcap : bk.length ≤ cap) :
    Calls Tryd.prog 27 #[.pointer (some ⟨b, o, none⟩), insA 15 x1 x2 x3 v m wh] w fun e w' => e = .returned (.int .i64 0) ∧ ∃ A' cap', FrAt w' b o v r A' (bk.length + 1) cap' ∧ BackIs w' A' (bk ++ [pc + 1]) ∧ bk.length + 1 ≤ cap' ∧ (∀ a, A' = some a → w.heap.size ≤ a.block) ∧ Upto (· = b) w w' := by
  have F := Lib.hid hF
  have h2 := hF.back
  have hz := hF.fz0
  have h0' := hF.pc
  have hlt := hF.lt
  clear hF
  obtain ⟨i0, hi0, hz0, hz1, hz2⟩ := info_parts Tryd.intInfo
  have hz33 := F.out.fz 33 (by omega)
  have hw1 : IntKind.i64.wrap (pc + 1) = pc + 1 := IntWalk.i64_in _ (by omega)
  have HC := Lib.hid (show ∀ W, Ext w W → ∀ a, A = some a → ∀ j u, (bk.map (Value.int .i64))[j]? = some u → W.cell? (a.add j) = some u from fun W hx a ha j u hj => back_cells hB hx a ha j u hj)
  have HNo := Lib.hid (show A = none → bk.length = 0 ∧ bk.length = 0 from fun ha => by
    by_cases e : bk = []
    · subst e; exact ⟨rfl, rfl⟩
    · obtain ⟨_, _, h, _⟩ := hB e; rw [ha] at h; cases h)
  clear hB
  generalize hnn : bk.length = n at *
  have HN := Lib.hid hnn
  clear hnn
  go_enter Tryd.func27, Tryd.ntmps27
  go_wp2_with fail
  go_region_law (refine step_append_grows rfl (.tmp 51) (.tmp 57) 24 rfl 3 i0 (.int .i64 0) 1 8 Tryd.underlying24 hi0 hz0 hz1 hz2 rfl (by decide) A n n (bk.map (Value.int .i64)) ?_ HNo.out ?_ ?_ ⟨w.heap.size + 1, 0, none⟩ 1 1 [.int .i64 (pc + 1)] ?_ rfl ?_ ?_ ?_ ?_ ?_ ?_
                 · first | rfl | (simp [Act.eval]; done) | (simp [Act.eval, Act.put]; done)
                 · simp [HN.out]
                 · exact HC.out _ ((ext1 w _).alloc (by simp) _).drew
                 · first | rfl | (simp [Act.eval]; done) | (simp [Act.eval, Act.put]; done)
                 · exact news_one (by simp)
                 · simp [Value.oneCell']
                 · omega
                 · unfold maxLen; omega
                 · omega
                 intro v1 w1 own1 gr1
                 obtain ⟨g, cap1, rfl, hcap1, hlt1⟩ := own1.form (Nat.succ_pos n)
                 have hx1 : Ext w w1 := (((ext1 w _).alloc (by simp) _).drew).grown gr1 (by simp; omega) (fun k h => by cases h)
                 have k0 : w1.cell? ⟨b, o, none⟩ = some (.int .i64 pc) := (hx1.cell (p := ⟨b, o, none⟩) hlt).trans h0'
                 have k33 : w1.cell? ⟨b, o + 33, none⟩ = some (.slice A n cap) := (hx1.cell (p := ⟨b, o + 33, none⟩) hlt).trans h2
                 have z0 : w1.frozen? ⟨b, o, none⟩ = false := (hx1.frozen (p := ⟨b, o, none⟩) hlt).trans hz
                 have z33 : w1.frozen? ⟨b, o + 33, none⟩ = false := (hx1.frozen (p := ⟨b, o + 33, none⟩) hlt).trans hz33
                 have c4 : w1.cell? ⟨w.heap.size, 4, none⟩ = some (.int .u64 v) := by rw [gr1.cell_far _ (by simp; omega) (by simp)]; simp
                 have hgw : w.heap.size ≤ g := by simp at hcap1; omega
                 have hbg : b ≠ g := by omega
                 have hcp := own_cap own1
                 have X1 := Lib.hid hx1
                 have O1 := Lib.hid own1
                 clear hx1 own1 gr1)
  all_goals
    go_wp2_with fail
    go_ret
    exact ⟨rfl, some ⟨g, 0, none⟩, cap1, (((F.out.ext X1.out).setBack _ _ _).setPc _), back_own O1.out HN.out (p := ⟨b, _, none⟩) (q := ⟨b, _, none⟩) hbg hbg _ _, hcp, (fun a ha => by injection ha with ha; subst ha; exact hgw), ((Upto.of_ext X1.out).setB _ _).setB _ _⟩
end

section
variable (M : Nat → Prop) (b o : Nat) (pc : Int) (r bk : List Int) (x1 x2 x3 v m wh : Int) (W : World)
theorem jumpB_jsr (hM : ∀ k, M k → k < W.heap.size) (hF : FrB M W b o pc r bk) (h0 : 0 ≤ v) (h1 : v ≤ 1000000000000) (hn8 : bk.length < 8) (hp0 : 0 ≤ pc) (hp1 : pc ≤ 1000000000000) :
    Calls Tryd.prog 27 #[.pointer (some ⟨b, o, none⟩), insA 15 x1 x2 x3 v m wh] W fun e w' => e = .returned (.int .i64 0) ∧ FrB M w' b o v r (bk ++ [pc + 1]) ∧ Upto (· = b) W w' := by
  obtain ⟨A, cap, hFr, hB, hc, _⟩ := hF
  refine (jump_jsr2 b o pc r A cap x1 x2 x3 v m wh W bk hFr hB h0 h1 hn8 hp0 hp1 hc).mono ?_
  rintro e w' ⟨rfl, A', cap', h2, h3, h4, h5, h6⟩
  exact ⟨rfl, ⟨A', cap', by simpa using h2, h3, by simpa using h4, fun _ a ha hm => by have := h5 a ha; have := hM _ hm; omega⟩, h6⟩
theorem jumpB_full (hF : FrB M W b o pc r bk) (h8 : 8 ≤ bk.length) (h9 : bk.length ≤ 1000) :
    Calls Tryd.prog 27 #[.pointer (some ⟨b, o, none⟩), insA 15 x1 x2 x3 v m wh] W fun e w' => e = .returned (.int .i64 3) ∧ FrB M w' b o pc r bk ∧ Upto (· = b) W w' := by
  have hF' := hF
  obtain ⟨A, cap, hFr, hB, hc, hM⟩ := hF
  refine (jump_jsr_full b o pc r A bk.length cap x1 x2 x3 v m wh W hFr h9 h8).mono ?_
  rintro e w' ⟨rfl, h2⟩
  exact ⟨rfl, hF'.ext h2, Upto.of_ext h2⟩
theorem jumpB_ret (u : Int) (hMb : M b) (hF : FrB M W b o pc r (bk ++ [u])) (h9 : bk.length < 1000) :
    Calls Tryd.prog 27 #[.pointer (some ⟨b, o, none⟩), insA 16 x1 x2 x3 v m wh] W fun e w' => e = .returned (.int .i64 0) ∧ FrB M w' b o u r bk ∧ Upto (· = b) W w' := by
  obtain ⟨A, cap, hFr, hB, hc, hM⟩ := hF
  have hne : bk ++ [u] ≠ [] := by simp
  obtain ⟨bb, bo, rfl, hcell⟩ := hB hne
  have hu := hcell bk.length (by simp)
  have e1 : (bk ++ [u]).getD bk.length 0 = u := by simp [List.getD_eq_getElem?_getD]
  rw [e1] at hu
  have hl : (bk ++ [u]).length = bk.length + 1 := by simp
  rw [hl] at hFr hc
  refine (jump_ret b o pc r cap x1 x2 x3 v m wh W bb bo bk.length u h9 hFr hc hu).mono ?_
  rintro e w' ⟨rfl, h2, h3⟩
  refine ⟨rfl, ⟨some ⟨bb, bo, none⟩, cap, h2, fun hn => ⟨bb, bo, rfl, fun i hi => ?_⟩, by omega, fun _ => hM hne⟩, h3⟩
  have h4 := hcell i (by simp; omega)
  have e2 : (bk ++ [u]).getD i 0 = bk.getD i 0 := by rw [List.getD_eq_getElem?_getD, List.getElem?_append_left hi, List.getD_eq_getElem?_getD]
  rw [e2] at h4
  exact (h3.cell (p := ⟨bb, bo + i, none⟩) (World.block_lt_of_cell? _ _ h4) (fun e => hM hne ⟨bb, bo, none⟩ rfl (by simp only at e ⊢; rw [e]; exact hMb))).trans h4
end

abbrev vmS : ByteArray := ⟨#[118, 109]⟩
theorem miss_chain (W : World) (a : Int) : Chain (missW W a) (.iface 88 (.pointer (some ⟨W.heap.size, 0, none⟩))) [(memS, missN a)] 2 :=
  .at_ _ _ _ _ [] _ (by simp [missW]) (by simp [missW]) (by simp [missW]) (.leaf 2)
theorem miss_ext (W : World) (a : Int) : Ext W (missW W a) := ext1 _ _
def MissT (a : Int) (w : World) (e : Ending) (w' : World) : Prop := ∃ c, e = .returned (.tuple #[.int .u64 0, .iface 88 (.pointer (some ⟨c, 0, none⟩))]) ∧ Chain w' (.iface 88 (.pointer (some ⟨c, 0, none⟩))) [(memS, missN a)] 2 ∧ Ext w w'
def MissS (a : Int) (w : World) (e : Ending) (w' : World) : Prop := ∃ c, e = .returned (.iface 88 (.pointer (some ⟨c, 0, none⟩))) ∧ Chain w' (.iface 88 (.pointer (some ⟨c, 0, none⟩))) [(memS, missN a)] 2 ∧ Ext w w'
def MissV (a : Int) (w : World) (e : Ending) (w' : World) : Prop := ∃ q c, e = .returned (.tuple #[.int .u64 q, .iface 88 (.pointer (some ⟨c, 0, none⟩))]) ∧ Chain w' (.iface 88 (.pointer (some ⟨c, 0, none⟩))) [(memS, missN a)] 2 ∧ Ext w w'
section
variable (m c d : Nat) (cs ws : List Int) (th ct : Int) (w : World)
theorem loadT (a : Int) (hM : MemAt w m c d cs ws th ct) (h0 : 0 ≤ a) (h1 : a < 18446744073709551616) (hw : widthF ws a = 0) :
    Calls Tryd.prog 25 #[.pointer (some ⟨m, 0, none⟩), .int .u64 a] w (MissT a w) :=
  (load_miss m c d cs ws th ct w a hM h0 h1 hw).mono fun _ _ ⟨h, k⟩ => ⟨_, h, k ▸ miss_chain w a, k ▸ miss_ext w a⟩
theorem storeT (a v : Int) (hM : MemAt w m c d cs ws th ct) (h0 : 0 ≤ a) (h1 : a < 18446744073709551616) (hw : widthF ws a = 0) :
    Calls Tryd.prog 23 #[.pointer (some ⟨m, 0, none⟩), .int .u64 a, .int .u64 v] w (MissS a w) :=
  (store_miss m c d cs ws th ct w a v hM h0 h1 hw).mono fun _ _ ⟨h, k⟩ => ⟨_, h, k ▸ miss_chain w a, k ▸ miss_ext w a⟩
theorem swapT (a v : Int) (hM : MemAt w m c d cs ws th ct) (h0 : 0 ≤ a) (h1 : a < 18446744073709551616) (hw : widthF ws a = 0) :
    Calls Tryd.prog 92 #[.pointer (some ⟨m, 0, none⟩), .int .u64 a, .int .u64 v] w (MissT a w) :=
  (swap_miss m c d cs ws th ct w a v hM h0 h1 hw).mono fun _ _ ⟨h, k⟩ => ⟨_, h, k ▸ miss_chain w a, k ▸ miss_ext w a⟩
theorem addT (a v : Int) (hM : MemAt w m c d cs ws th ct) (h0 : 0 ≤ a) (h1 : a < 18446744073709551616) (hw : widthF ws a = 0) :
    Calls Tryd.prog 90 #[.pointer (some ⟨m, 0, none⟩), .int .u64 a, .int .u64 v] w (MissT a w) :=
  (add_miss m c d cs ws th ct w a v hM h0 h1 hw).mono fun _ _ ⟨h, k⟩ => ⟨_, h, k ▸ miss_chain w a, k ▸ miss_ext w a⟩
theorem casT (a o v : Int) (hM : MemAt w m c d cs ws th ct) (h0 : 0 ≤ a) (h1 : a < 18446744073709551616) (hw : widthF ws a = 0) :
    Calls Tryd.prog 91 #[.pointer (some ⟨m, 0, none⟩), .int .u64 a, .int .u64 o, .int .u64 v] w (MissT a w) :=
  (cas_miss m c d cs ws th ct w a o v hM h0 h1 hw).mono fun _ _ ⟨h, k⟩ => ⟨_, h, k ▸ miss_chain w a, k ▸ miss_ext w a⟩
end
section
variable (m c d : Nat) (cs ws : List Int) (th ct : Int) (w : World) (b o : Nat) (pc : Int) (r : List Int) (A2 : Option Addr) (n cap : Nat)
set_option maxRecDepth 100000 in
set_option maxHeartbeats 4000000 in
theorem vmiss_17 (x1 x2 x3 v mm wh at_ : Int) (hF : FrAt w b o pc r A2 n cap) (hM : MemAt w m c d cs ws th ct)
    (ha0 : 0 ≤ x1) (ha1 : x1 < 32) (h0 : 0 ≤ at_) (h1 : at_ < 18446744073709551616) (hw : widthF ws at_ = 0) (hk : addressF r ⟨17, x1, x2, x3, v, mm, wh⟩ = at_) :
    Calls Tryd.prog 28 #[.pointer (some ⟨b, o, none⟩), insA 17 x1 x2 x3 v mm wh, .iface 25 (.pointer (some ⟨m, 0, none⟩))] w (MissV at_ w) := by
  have hr := hF.r x1.toNat (by omega)
  have HK := Lib.hid hk
  have HF := Lib.hid hF
  have HM := Lib.hid hM
  have lb := hF.lt
  have na := Tryd.aheadLoad
  have me := Tryd.methodLoad
  clear hk hF hM
  generalize r.getD x1.toNat 0 = u at hr ⊢
  have C := Lib.hid (fun W X => loadT m c d cs ws th ct W at_ (HM.out.ext (w := w) (w' := W) X) h0 h1 hw)
  clear hw h0 h1
  unfold MissV
  go_enter Tryd.func28, Tryd.ntmps28
  go_wp2_with fail
  go_region_held3 (fun w' => w'.cell? ⟨w.heap.size, 0, none⟩ = some (.int .i64 17) ∧ w'.cell? ⟨w.heap.size, 1, none⟩ = some (.int .i64 x1) ∧ w'.cell? ⟨w.heap.size, 2, none⟩ = some (.int .i64 x2) ∧ w'.cell? ⟨w.heap.size, 3, none⟩ = some (.int .i64 x3) ∧ w'.cell? ⟨w.heap.size, 4, none⟩ = some (.int .u64 v) ∧ w'.cell? ⟨w.heap.size, 5, none⟩ = some (.int .i64 mm) ∧ w'.cell? ⟨w.heap.size, 6, none⟩ = some (.int .i64 wh) ∧ w'.cell? ⟨b, o + 1 + x1.toNat, none⟩ = some (.int .u64 u))
    (first | exact ⟨u0, u1, u2, u3', u4, u5, u6, r1⟩ | go_keep)
    (first
      | (go_at_call 48; refine (address_any b o pc r A2 n cap ⟨17, x1, x2, x3, v, mm, wh⟩ _ (HF.out.ext (ext1 w _).drew)).mono ?_; rintro e w1 ⟨rfl, hx1⟩; rw [HK.out]
         have u0 : w1.cell? ⟨w.heap.size, 0, none⟩ = some (.int .i64 17) := (hx1.cell (p := ⟨w.heap.size, 0, none⟩) (by simp)).trans (by simp)
         have u1 : w1.cell? ⟨w.heap.size, 1, none⟩ = some (.int .i64 x1) := (hx1.cell (p := ⟨w.heap.size, 1, none⟩) (by simp)).trans (by simp)
         have u2 : w1.cell? ⟨w.heap.size, 2, none⟩ = some (.int .i64 x2) := (hx1.cell (p := ⟨w.heap.size, 2, none⟩) (by simp)).trans (by simp)
         have u3' : w1.cell? ⟨w.heap.size, 3, none⟩ = some (.int .i64 x3) := (hx1.cell (p := ⟨w.heap.size, 3, none⟩) (by simp)).trans (by simp)
         have u4 : w1.cell? ⟨w.heap.size, 4, none⟩ = some (.int .u64 v) := (hx1.cell (p := ⟨w.heap.size, 4, none⟩) (by simp)).trans (by simp)
         have u5 : w1.cell? ⟨w.heap.size, 5, none⟩ = some (.int .i64 mm) := (hx1.cell (p := ⟨w.heap.size, 5, none⟩) (by simp)).trans (by simp)
         have u6 : w1.cell? ⟨w.heap.size, 6, none⟩ = some (.int .i64 wh) := (hx1.cell (p := ⟨w.heap.size, 6, none⟩) (by simp)).trans (by simp)
         have hX : Ext w w1 := (ext1 w _).drew.trans (hx1.mono (by simp))
         have r1 : w1.cell? ⟨b, o + 1 + x1.toNat, none⟩ = some (.int .u64 u) := (hX.cell (p := ⟨b, o + 1 + x1.toNat, none⟩) lb).trans hr
         have X1 := Lib.hid hX
         clear hx1 hX))
  go_wp2_with (go_at_call 25; (first | refine (C.out _ X1.out).mono ?_ | refine (C.out _ X1.out.drew).mono ?_); rintro e w2 ⟨c2, rfl, h1, h2⟩; have P1 := Lib.hid h1; have P2 := Lib.hid h2; clear h1 h2)
  go_ret2
  exact ⟨_, c2, rfl, P1.out, X1.out.trans (P2.out.mono X1.out.size)⟩
set_option maxRecDepth 100000 in
set_option maxHeartbeats 4000000 in
theorem vmiss_18 (x1 x2 x3 v mm wh at_ : Int) (hF : FrAt w b o pc r A2 n cap) (hM : MemAt w m c d cs ws th ct)
    (ha0 : 0 ≤ x1) (ha1 : x1 < 32) (h0 : 0 ≤ at_) (h1 : at_ < 18446744073709551616) (hw : widthF ws at_ = 0) (hk : addressF r ⟨18, x1, x2, x3, v, mm, wh⟩ = at_) :
    Calls Tryd.prog 28 #[.pointer (some ⟨b, o, none⟩), insA 18 x1 x2 x3 v mm wh, .iface 25 (.pointer (some ⟨m, 0, none⟩))] w (MissV at_ w) := by
  have hr := hF.r x1.toNat (by omega)
  have HK := Lib.hid hk
  have HF := Lib.hid hF
  have HM := Lib.hid hM
  have lb := hF.lt
  have na := Tryd.aheadStore
  have me := Tryd.methodStore
  clear hk hF hM
  generalize r.getD x1.toNat 0 = u at hr ⊢
  have C := Lib.hid (fun W X => storeT m c d cs ws th ct W at_ u (HM.out.ext (w := w) (w' := W) X) h0 h1 hw)
  clear hw h0 h1
  unfold MissV
  go_enter Tryd.func28, Tryd.ntmps28
  go_wp2_with fail
  go_region_held3 (fun w' => w'.cell? ⟨w.heap.size, 0, none⟩ = some (.int .i64 18) ∧ w'.cell? ⟨w.heap.size, 1, none⟩ = some (.int .i64 x1) ∧ w'.cell? ⟨w.heap.size, 2, none⟩ = some (.int .i64 x2) ∧ w'.cell? ⟨w.heap.size, 3, none⟩ = some (.int .i64 x3) ∧ w'.cell? ⟨w.heap.size, 4, none⟩ = some (.int .u64 v) ∧ w'.cell? ⟨w.heap.size, 5, none⟩ = some (.int .i64 mm) ∧ w'.cell? ⟨w.heap.size, 6, none⟩ = some (.int .i64 wh) ∧ w'.cell? ⟨b, o + 1 + x1.toNat, none⟩ = some (.int .u64 u))
    (first | exact ⟨u0, u1, u2, u3', u4, u5, u6, r1⟩ | go_keep)
    (first
      | (go_at_call 48; refine (address_any b o pc r A2 n cap ⟨18, x1, x2, x3, v, mm, wh⟩ _ (HF.out.ext (ext1 w _).drew)).mono ?_; rintro e w1 ⟨rfl, hx1⟩; rw [HK.out]
         have u0 : w1.cell? ⟨w.heap.size, 0, none⟩ = some (.int .i64 18) := (hx1.cell (p := ⟨w.heap.size, 0, none⟩) (by simp)).trans (by simp)
         have u1 : w1.cell? ⟨w.heap.size, 1, none⟩ = some (.int .i64 x1) := (hx1.cell (p := ⟨w.heap.size, 1, none⟩) (by simp)).trans (by simp)
         have u2 : w1.cell? ⟨w.heap.size, 2, none⟩ = some (.int .i64 x2) := (hx1.cell (p := ⟨w.heap.size, 2, none⟩) (by simp)).trans (by simp)
         have u3' : w1.cell? ⟨w.heap.size, 3, none⟩ = some (.int .i64 x3) := (hx1.cell (p := ⟨w.heap.size, 3, none⟩) (by simp)).trans (by simp)
         have u4 : w1.cell? ⟨w.heap.size, 4, none⟩ = some (.int .u64 v) := (hx1.cell (p := ⟨w.heap.size, 4, none⟩) (by simp)).trans (by simp)
         have u5 : w1.cell? ⟨w.heap.size, 5, none⟩ = some (.int .i64 mm) := (hx1.cell (p := ⟨w.heap.size, 5, none⟩) (by simp)).trans (by simp)
         have u6 : w1.cell? ⟨w.heap.size, 6, none⟩ = some (.int .i64 wh) := (hx1.cell (p := ⟨w.heap.size, 6, none⟩) (by simp)).trans (by simp)
         have hX : Ext w w1 := (ext1 w _).drew.trans (hx1.mono (by simp))
         have r1 : w1.cell? ⟨b, o + 1 + x1.toNat, none⟩ = some (.int .u64 u) := (hX.cell (p := ⟨b, o + 1 + x1.toNat, none⟩) lb).trans hr
         have X1 := Lib.hid hX
         clear hx1 hX))
  go_wp2_with (go_at_call 23; (first | refine (C.out _ X1.out).mono ?_ | refine (C.out _ X1.out.drew).mono ?_); rintro e w2 ⟨c2, rfl, h1, h2⟩; have P1 := Lib.hid h1; have P2 := Lib.hid h2; clear h1 h2)
  go_ret2
  exact ⟨_, c2, rfl, P1.out, X1.out.trans (P2.out.mono X1.out.size)⟩
set_option maxRecDepth 100000 in
set_option maxHeartbeats 4000000 in
theorem vmiss_19 (x1 x2 x3 v mm wh at_ : Int) (hF : FrAt w b o pc r A2 n cap) (hM : MemAt w m c d cs ws th ct)
    (ha0 : 0 ≤ x1) (ha1 : x1 < 32) (h0 : 0 ≤ at_) (h1 : at_ < 18446744073709551616) (hw : widthF ws at_ = 0) (hk : addressF r ⟨19, x1, x2, x3, v, mm, wh⟩ = at_) :
    Calls Tryd.prog 28 #[.pointer (some ⟨b, o, none⟩), insA 19 x1 x2 x3 v mm wh, .iface 25 (.pointer (some ⟨m, 0, none⟩))] w (MissV at_ w) := by
  have hr := hF.r x1.toNat (by omega)
  have HK := Lib.hid hk
  have HF := Lib.hid hF
  have HM := Lib.hid hM
  have lb := hF.lt
  have na := Tryd.aheadSwap
  have me := Tryd.methodSwap
  clear hk hF hM
  generalize r.getD x1.toNat 0 = u at hr ⊢
  have C := Lib.hid (fun W X => swapT m c d cs ws th ct W at_ u (HM.out.ext (w := w) (w' := W) X) h0 h1 hw)
  clear hw h0 h1
  unfold MissV
  go_enter Tryd.func28, Tryd.ntmps28
  go_wp2_with fail
  go_region_held3 (fun w' => w'.cell? ⟨w.heap.size, 0, none⟩ = some (.int .i64 19) ∧ w'.cell? ⟨w.heap.size, 1, none⟩ = some (.int .i64 x1) ∧ w'.cell? ⟨w.heap.size, 2, none⟩ = some (.int .i64 x2) ∧ w'.cell? ⟨w.heap.size, 3, none⟩ = some (.int .i64 x3) ∧ w'.cell? ⟨w.heap.size, 4, none⟩ = some (.int .u64 v) ∧ w'.cell? ⟨w.heap.size, 5, none⟩ = some (.int .i64 mm) ∧ w'.cell? ⟨w.heap.size, 6, none⟩ = some (.int .i64 wh) ∧ w'.cell? ⟨b, o + 1 + x1.toNat, none⟩ = some (.int .u64 u))
    (first | exact ⟨u0, u1, u2, u3', u4, u5, u6, r1⟩ | go_keep)
    (first
      | (go_at_call 48; refine (address_any b o pc r A2 n cap ⟨19, x1, x2, x3, v, mm, wh⟩ _ (HF.out.ext (ext1 w _).drew)).mono ?_; rintro e w1 ⟨rfl, hx1⟩; rw [HK.out]
         have u0 : w1.cell? ⟨w.heap.size, 0, none⟩ = some (.int .i64 19) := (hx1.cell (p := ⟨w.heap.size, 0, none⟩) (by simp)).trans (by simp)
         have u1 : w1.cell? ⟨w.heap.size, 1, none⟩ = some (.int .i64 x1) := (hx1.cell (p := ⟨w.heap.size, 1, none⟩) (by simp)).trans (by simp)
         have u2 : w1.cell? ⟨w.heap.size, 2, none⟩ = some (.int .i64 x2) := (hx1.cell (p := ⟨w.heap.size, 2, none⟩) (by simp)).trans (by simp)
         have u3' : w1.cell? ⟨w.heap.size, 3, none⟩ = some (.int .i64 x3) := (hx1.cell (p := ⟨w.heap.size, 3, none⟩) (by simp)).trans (by simp)
         have u4 : w1.cell? ⟨w.heap.size, 4, none⟩ = some (.int .u64 v) := (hx1.cell (p := ⟨w.heap.size, 4, none⟩) (by simp)).trans (by simp)
         have u5 : w1.cell? ⟨w.heap.size, 5, none⟩ = some (.int .i64 mm) := (hx1.cell (p := ⟨w.heap.size, 5, none⟩) (by simp)).trans (by simp)
         have u6 : w1.cell? ⟨w.heap.size, 6, none⟩ = some (.int .i64 wh) := (hx1.cell (p := ⟨w.heap.size, 6, none⟩) (by simp)).trans (by simp)
         have hX : Ext w w1 := (ext1 w _).drew.trans (hx1.mono (by simp))
         have r1 : w1.cell? ⟨b, o + 1 + x1.toNat, none⟩ = some (.int .u64 u) := (hX.cell (p := ⟨b, o + 1 + x1.toNat, none⟩) lb).trans hr
         have X1 := Lib.hid hX
         clear hx1 hX))
  go_wp2_with (go_at_call 92; (first | refine (C.out _ X1.out).mono ?_ | refine (C.out _ X1.out.drew).mono ?_); rintro e w2 ⟨c2, rfl, h1, h2⟩; have P1 := Lib.hid h1; have P2 := Lib.hid h2; clear h1 h2)
  go_ret2
  exact ⟨_, c2, rfl, P1.out, X1.out.trans (P2.out.mono X1.out.size)⟩
set_option maxRecDepth 100000 in
set_option maxHeartbeats 4000000 in
theorem vmiss_20 (x1 x2 x3 v mm wh at_ : Int) (hF : FrAt w b o pc r A2 n cap) (hM : MemAt w m c d cs ws th ct)
    (ha0 : 0 ≤ x1) (ha1 : x1 < 32) (h0 : 0 ≤ at_) (h1 : at_ < 18446744073709551616) (hw : widthF ws at_ = 0) (hk : addressF r ⟨20, x1, x2, x3, v, mm, wh⟩ = at_) :
    Calls Tryd.prog 28 #[.pointer (some ⟨b, o, none⟩), insA 20 x1 x2 x3 v mm wh, .iface 25 (.pointer (some ⟨m, 0, none⟩))] w (MissV at_ w) := by
  have hr := hF.r x1.toNat (by omega)
  have HK := Lib.hid hk
  have HF := Lib.hid hF
  have HM := Lib.hid hM
  have lb := hF.lt
  have na := Tryd.aheadAdd
  have me := Tryd.methodAdd
  clear hk hF hM
  generalize r.getD x1.toNat 0 = u at hr ⊢
  have C := Lib.hid (fun W X => addT m c d cs ws th ct W at_ u (HM.out.ext (w := w) (w' := W) X) h0 h1 hw)
  clear hw h0 h1
  unfold MissV
  go_enter Tryd.func28, Tryd.ntmps28
  go_wp2_with fail
  go_region_held3 (fun w' => w'.cell? ⟨w.heap.size, 0, none⟩ = some (.int .i64 20) ∧ w'.cell? ⟨w.heap.size, 1, none⟩ = some (.int .i64 x1) ∧ w'.cell? ⟨w.heap.size, 2, none⟩ = some (.int .i64 x2) ∧ w'.cell? ⟨w.heap.size, 3, none⟩ = some (.int .i64 x3) ∧ w'.cell? ⟨w.heap.size, 4, none⟩ = some (.int .u64 v) ∧ w'.cell? ⟨w.heap.size, 5, none⟩ = some (.int .i64 mm) ∧ w'.cell? ⟨w.heap.size, 6, none⟩ = some (.int .i64 wh) ∧ w'.cell? ⟨b, o + 1 + x1.toNat, none⟩ = some (.int .u64 u))
    (first | exact ⟨u0, u1, u2, u3', u4, u5, u6, r1⟩ | go_keep)
    (first
      | (go_at_call 48; refine (address_any b o pc r A2 n cap ⟨20, x1, x2, x3, v, mm, wh⟩ _ (HF.out.ext (ext1 w _).drew)).mono ?_; rintro e w1 ⟨rfl, hx1⟩; rw [HK.out]
         have u0 : w1.cell? ⟨w.heap.size, 0, none⟩ = some (.int .i64 20) := (hx1.cell (p := ⟨w.heap.size, 0, none⟩) (by simp)).trans (by simp)
         have u1 : w1.cell? ⟨w.heap.size, 1, none⟩ = some (.int .i64 x1) := (hx1.cell (p := ⟨w.heap.size, 1, none⟩) (by simp)).trans (by simp)
         have u2 : w1.cell? ⟨w.heap.size, 2, none⟩ = some (.int .i64 x2) := (hx1.cell (p := ⟨w.heap.size, 2, none⟩) (by simp)).trans (by simp)
         have u3' : w1.cell? ⟨w.heap.size, 3, none⟩ = some (.int .i64 x3) := (hx1.cell (p := ⟨w.heap.size, 3, none⟩) (by simp)).trans (by simp)
         have u4 : w1.cell? ⟨w.heap.size, 4, none⟩ = some (.int .u64 v) := (hx1.cell (p := ⟨w.heap.size, 4, none⟩) (by simp)).trans (by simp)
         have u5 : w1.cell? ⟨w.heap.size, 5, none⟩ = some (.int .i64 mm) := (hx1.cell (p := ⟨w.heap.size, 5, none⟩) (by simp)).trans (by simp)
         have u6 : w1.cell? ⟨w.heap.size, 6, none⟩ = some (.int .i64 wh) := (hx1.cell (p := ⟨w.heap.size, 6, none⟩) (by simp)).trans (by simp)
         have hX : Ext w w1 := (ext1 w _).drew.trans (hx1.mono (by simp))
         have r1 : w1.cell? ⟨b, o + 1 + x1.toNat, none⟩ = some (.int .u64 u) := (hX.cell (p := ⟨b, o + 1 + x1.toNat, none⟩) lb).trans hr
         have X1 := Lib.hid hX
         clear hx1 hX))
  go_wp2_with (go_at_call 90; (first | refine (C.out _ X1.out).mono ?_ | refine (C.out _ X1.out.drew).mono ?_); rintro e w2 ⟨c2, rfl, h1, h2⟩; have P1 := Lib.hid h1; have P2 := Lib.hid h2; clear h1 h2)
  go_ret2
  exact ⟨_, c2, rfl, P1.out, X1.out.trans (P2.out.mono X1.out.size)⟩
set_option maxRecDepth 100000 in
set_option maxHeartbeats 4000000 in
theorem vmiss_21 (x1 x2 x3 v mm wh at_ : Int) (hF : FrAt w b o pc r A2 n cap) (hM : MemAt w m c d cs ws th ct)
    (ha0 : 0 ≤ x1) (ha1 : x1 < 32) (hb0 : 0 ≤ x3) (hb1 : x3 < 32) (h0 : 0 ≤ at_) (h1 : at_ < 18446744073709551616) (hw : widthF ws at_ = 0) (hk : addressF r ⟨21, x1, x2, x3, v, mm, wh⟩ = at_) :
    Calls Tryd.prog 28 #[.pointer (some ⟨b, o, none⟩), insA 21 x1 x2 x3 v mm wh, .iface 25 (.pointer (some ⟨m, 0, none⟩))] w (MissV at_ w) := by
  have hr := hF.r x1.toNat (by omega)
  have hr3 := hF.r x3.toNat (by omega)
  have HK := Lib.hid hk
  have HF := Lib.hid hF
  have HM := Lib.hid hM
  have lb := hF.lt
  have na := Tryd.aheadCas
  have me := Tryd.methodCas
  clear hk hF hM
  generalize r.getD x1.toNat 0 = u at hr ⊢
  generalize r.getD x3.toNat 0 = u3 at hr3 ⊢
  have C := Lib.hid (fun W X => casT m c d cs ws th ct W at_ u u3 (HM.out.ext (w := w) (w' := W) X) h0 h1 hw)
  clear hw h0 h1
  unfold MissV
  go_enter Tryd.func28, Tryd.ntmps28
  go_wp2_with fail
  go_region_held3 (fun w' => w'.cell? ⟨w.heap.size, 0, none⟩ = some (.int .i64 21) ∧ w'.cell? ⟨w.heap.size, 1, none⟩ = some (.int .i64 x1) ∧ w'.cell? ⟨w.heap.size, 2, none⟩ = some (.int .i64 x2) ∧ w'.cell? ⟨w.heap.size, 3, none⟩ = some (.int .i64 x3) ∧ w'.cell? ⟨w.heap.size, 4, none⟩ = some (.int .u64 v) ∧ w'.cell? ⟨w.heap.size, 5, none⟩ = some (.int .i64 mm) ∧ w'.cell? ⟨w.heap.size, 6, none⟩ = some (.int .i64 wh) ∧ w'.cell? ⟨b, o + 1 + x1.toNat, none⟩ = some (.int .u64 u))
    (first | exact ⟨u0, u1, u2, u3', u4, u5, u6, r1⟩ | go_keep)
    (first
      | (go_at_call 48; refine (address_any b o pc r A2 n cap ⟨21, x1, x2, x3, v, mm, wh⟩ _ (HF.out.ext (ext1 w _).drew)).mono ?_; rintro e w1 ⟨rfl, hx1⟩; rw [HK.out]
         have u0 : w1.cell? ⟨w.heap.size, 0, none⟩ = some (.int .i64 21) := (hx1.cell (p := ⟨w.heap.size, 0, none⟩) (by simp)).trans (by simp)
         have u1 : w1.cell? ⟨w.heap.size, 1, none⟩ = some (.int .i64 x1) := (hx1.cell (p := ⟨w.heap.size, 1, none⟩) (by simp)).trans (by simp)
         have u2 : w1.cell? ⟨w.heap.size, 2, none⟩ = some (.int .i64 x2) := (hx1.cell (p := ⟨w.heap.size, 2, none⟩) (by simp)).trans (by simp)
         have u3' : w1.cell? ⟨w.heap.size, 3, none⟩ = some (.int .i64 x3) := (hx1.cell (p := ⟨w.heap.size, 3, none⟩) (by simp)).trans (by simp)
         have u4 : w1.cell? ⟨w.heap.size, 4, none⟩ = some (.int .u64 v) := (hx1.cell (p := ⟨w.heap.size, 4, none⟩) (by simp)).trans (by simp)
         have u5 : w1.cell? ⟨w.heap.size, 5, none⟩ = some (.int .i64 mm) := (hx1.cell (p := ⟨w.heap.size, 5, none⟩) (by simp)).trans (by simp)
         have u6 : w1.cell? ⟨w.heap.size, 6, none⟩ = some (.int .i64 wh) := (hx1.cell (p := ⟨w.heap.size, 6, none⟩) (by simp)).trans (by simp)
         have hX : Ext w w1 := (ext1 w _).drew.trans (hx1.mono (by simp))
         have r1 : w1.cell? ⟨b, o + 1 + x1.toNat, none⟩ = some (.int .u64 u) := (hX.cell (p := ⟨b, o + 1 + x1.toNat, none⟩) lb).trans hr
         have r3 : w1.cell? ⟨b, o + 1 + x3.toNat, none⟩ = some (.int .u64 u3) := (hX.cell (p := ⟨b, o + 1 + x3.toNat, none⟩) lb).trans hr3
         have X1 := Lib.hid hX
         clear hx1 hX))
  go_wp2_with fail
  go_region_with (go_at_call 91; (first | refine (C.out _ X1.out).mono ?_ | refine (C.out _ X1.out.drew).mono ?_); rintro e w2 ⟨c2, rfl, h1, h2⟩; have P1 := Lib.hid h1; have P2 := Lib.hid h2; clear h1 h2)
  all_goals
    go_wp2_with fail
    go_ret2
    first | exact ⟨_, c2, rfl, P1.out, X1.out.trans (P2.out.mono X1.out.size)⟩ | exact ⟨_, c2, rfl, P1.out, X1.out.drew.trans (P2.out.mono X1.out.size)⟩
end
end Go.Proofs.YtoncebfhkoabaaaDoor

/- vm.Step: without a frame; at what a library's code alone does; at a cell that is not there. -/
namespace Go.Proofs.YtoncebfhkoabaaaDoor
open Go.RowKit Go.Extern.Stop Go.Stop Go.Extern

theorem vfail_any (n : Int) (u : TypeId) (v : Value) (w : World) :
    Calls Tryd.prog 29 #[.int .i64 n, .iface u v] w fun e w' => e = .returned (.iface 88 (.pointer (some ⟨w.heap.size, 0, none⟩))) ∧ w' = w.alloc (.cells #[.string vmS, .int .i64 n, .iface u v] 92) := by
  go_enter Tryd.func29, Tryd.ntmps29
  go_wp2
  go_ret
  exact ⟨rfl, rfl⟩
set_option maxRecDepth 100000 in
theorem step_nil (s mv : Value) (w : World) :
    Calls Tryd.prog 10 #[.pointer none, s, mv] w fun e w' => e = .returned (.tuple #[.int .i64 3, .nilIface]) ∧ w = w' := by
  go_enter Tryd.func10, Tryd.ntmps10
  go_wp2_with fail
  go_ret2
  exact ⟨rfl, rfl⟩
section
variable (M : Nat → Prop) (b o bc off ccap : Nat) (l : List InsD) (r bk : List Int) (mv : Value) (w : World)
set_option maxRecDepth 100000 in
set_option maxHeartbeats 8000000 in
theorem step_away (k : Nat) (op x1 x2 x3 v m wh : Int) (hF : FrB M w b o k r bk) (hi : InsAt w bc off l) (hlen : l.length ≤ 1000000) (hk : k < l.length) (hx : l[k] = ⟨op, x1, x2, x3, v, m, wh⟩) (hv : vmayF ⟨op, x1, x2, x3, v, m, wh⟩ l.length = true)
    (hop : 22 ≤ op) :
    Calls Tryd.prog 10 #[.pointer (some ⟨b, o, none⟩), .slice (some ⟨bc, off, none⟩) l.length ccap, mv] w (StepPost M w b o 1 k r bk) := by
  have HF0 := Lib.hid hF
  obtain ⟨A2, cap, hFr, hB, hcap, hM⟩ := hF
  have h0 := hFr.pc
  obtain ⟨c0, c1, c2, c3, c4, c5, c6⟩ := hi k hk
  rw [hx] at c0 c1 c2 c3 c4 c5 c6
  have lb0 := World.block_lt_of_cell? _ _ h0
  have lb1 := World.block_lt_of_cell? _ _ c0
  have h1 : (k : Int) < (l.length : Int) := by omega
  have h2 : (0 : Int) ≤ (k : Int) := by omega
  have HV := Lib.hid hv
  clear hFr hB hM hv hx hi hcap
  simp only at c0 c1 c2 c3 c4 c5 c6
  unfold StepPost
  have g1 : (op == 1) = false := beq_eq_false_iff_ne.2 (by omega)
  have g2 : (op == 2) = false := beq_eq_false_iff_ne.2 (by omega)
  have g3 : (op == 3) = false := beq_eq_false_iff_ne.2 (by omega)
  have g4 : (op == 4) = false := beq_eq_false_iff_ne.2 (by omega)
  have g5 : (op == 5) = false := beq_eq_false_iff_ne.2 (by omega)
  have g6 : (op == 6) = false := beq_eq_false_iff_ne.2 (by omega)
  have g7 : (op == 7) = false := beq_eq_false_iff_ne.2 (by omega)
  have g8 : (op == 8) = false := beq_eq_false_iff_ne.2 (by omega)
  have g9 : (op == 9) = false := beq_eq_false_iff_ne.2 (by omega)
  have g10 : (op == 10) = false := beq_eq_false_iff_ne.2 (by omega)
  have g11 : (op == 11) = false := beq_eq_false_iff_ne.2 (by omega)
  have g12 : (op == 12) = false := beq_eq_false_iff_ne.2 (by omega)
  have g13 : (op == 13) = false := beq_eq_false_iff_ne.2 (by omega)
  have g14 : (op == 14) = false := beq_eq_false_iff_ne.2 (by omega)
  have g15 : (op == 15) = false := beq_eq_false_iff_ne.2 (by omega)
  have g16 : (op == 16) = false := beq_eq_false_iff_ne.2 (by omega)
  have g17 : (op == 17) = false := beq_eq_false_iff_ne.2 (by omega)
  have g18 : (op == 18) = false := beq_eq_false_iff_ne.2 (by omega)
  have g19 : (op == 19) = false := beq_eq_false_iff_ne.2 (by omega)
  have g20 : (op == 20) = false := beq_eq_false_iff_ne.2 (by omega)
  have g21 : (op == 21) = false := beq_eq_false_iff_ne.2 (by omega)
  go_enter Tryd.func10, Tryd.ntmps10
  go_wp2_with (first
      | (go_at_call 26; refine (vmay_any ⟨_, x1, x2, x3, v, m, wh⟩ l.length (by omega) (by omega) _).mono ?_; rintro e w1 ⟨rfl, hb⟩; rw [HV.out]
         have d0 := (hb.cell (p := ⟨b, o, none⟩) lb0).trans h0
         have e0 := (hb.cell (p := ⟨bc, off + k * 7, none⟩) lb1).trans c0
         have e1 := (hb.cell (p := ⟨bc, off + k * 7 + 1, none⟩) lb1).trans c1
         have e2 := (hb.cell (p := ⟨bc, off + k * 7 + 2, none⟩) lb1).trans c2
         have e3 := (hb.cell (p := ⟨bc, off + k * 7 + 3, none⟩) lb1).trans c3
         have e4 := (hb.cell (p := ⟨bc, off + k * 7 + 4, none⟩) lb1).trans c4
         have e5 := (hb.cell (p := ⟨bc, off + k * 7 + 5, none⟩) lb1).trans c5
         have e6 := (hb.cell (p := ⟨bc, off + k * 7 + 6, none⟩) lb1).trans c6
         have X1 := Lib.hid hb; clear hb))
  go_ret2
  exact ⟨rfl, HF0.out.ext (X1.out.trans ((ext1 _ _).mono X1.out.size)), Upto.of_ext (X1.out.trans ((ext1 _ _).mono X1.out.size))⟩

/-- What a step at a cell that is not there leaves. -/
def StepMiss (M : Nat → Prop) (w : World) (b o : Nat) (pc at_ : Int) (r bk : List Int) (e : Ending) (w' : World) : Prop :=
  ∃ c, e = .returned (.tuple #[.int .i64 3, .iface 88 (.pointer (some ⟨c, 0, none⟩))]) ∧ Chain w' (.iface 88 (.pointer (some ⟨c, 0, none⟩))) [(vmS, pc), (memS, missN at_)] 2 ∧ FrB M w' b o pc r bk ∧ Ext w w'
set_option maxRecDepth 100000 in
set_option maxHeartbeats 8000000 in
theorem step_miss (mp k : Nat) (op x1 x2 x3 v m wh at_ : Int) (hF : FrB M w b o k r bk) (hi : InsAt w bc off l) (hlen : l.length ≤ 1000000) (hk : k < l.length) (hx : l[k] = ⟨op, x1, x2, x3, v, m, wh⟩) (hv : vmayF ⟨op, x1, x2, x3, v, m, wh⟩ l.length = true)
    (hop : op = 17 ∨ op = 18 ∨ op = 19 ∨ op = 20 ∨ op = 21)
    (hacc : ∀ W, Ext w W → Calls Tryd.prog 28 #[.pointer (some ⟨b, o, none⟩), insA op x1 x2 x3 v m wh, .iface 25 (.pointer (some ⟨mp, 0, none⟩))] W (MissV at_ W)) :
    Calls Tryd.prog 10 #[.pointer (some ⟨b, o, none⟩), .slice (some ⟨bc, off, none⟩) l.length ccap, .iface 25 (.pointer (some ⟨mp, 0, none⟩))] w (StepMiss M w b o k at_ r bk) := by
  have HF0 := Lib.hid hF
  obtain ⟨A2, cap, hFr, hB, hcap, hM⟩ := hF
  have h0 := hFr.pc
  obtain ⟨c0, c1, c2, c3, c4, c5, c6⟩ := hi k hk
  rw [hx] at c0 c1 c2 c3 c4 c5 c6
  have lb0 := World.block_lt_of_cell? _ _ h0
  have lb1 := World.block_lt_of_cell? _ _ c0
  have h1 : (k : Int) < (l.length : Int) := by omega
  have h2 : (0 : Int) ≤ (k : Int) := by omega
  have HV := Lib.hid hv
  have HA := Lib.hid hacc
  clear hFr hB hM hv hx hi hcap hacc
  simp only at c0 c1 c2 c3 c4 c5 c6
  unfold StepMiss
  rcases hop with rfl | rfl | rfl | rfl | rfl
  all_goals
    go_enter Tryd.func10, Tryd.ntmps10
    go_wp2_with (first
      | (go_at_call 26; refine (vmay_any ⟨_, x1, x2, x3, v, m, wh⟩ l.length (by omega) (by omega) _).mono ?_; rintro e w1 ⟨rfl, hb⟩; rw [HV.out]
         have d0 := (hb.cell (p := ⟨b, o, none⟩) lb0).trans h0
         have e0 := (hb.cell (p := ⟨bc, off + k * 7, none⟩) lb1).trans c0
         have e1 := (hb.cell (p := ⟨bc, off + k * 7 + 1, none⟩) lb1).trans c1
         have e2 := (hb.cell (p := ⟨bc, off + k * 7 + 2, none⟩) lb1).trans c2
         have e3 := (hb.cell (p := ⟨bc, off + k * 7 + 3, none⟩) lb1).trans c3
         have e4 := (hb.cell (p := ⟨bc, off + k * 7 + 4, none⟩) lb1).trans c4
         have e5 := (hb.cell (p := ⟨bc, off + k * 7 + 5, none⟩) lb1).trans c5
         have e6 := (hb.cell (p := ⟨bc, off + k * 7 + 6, none⟩) lb1).trans c6
         have X1 := Lib.hid hb; clear hb)
      | (go_at_call 28; refine (HA.out _ (X1.out.trans ((ext1 _ _).mono X1.out.size))).mono ?_; rintro e w2 ⟨q2, c2, rfl, hm2, hx2⟩
         have M2 := Lib.hid hm2
         have hX2 : Ext w w2 := (X1.out.trans ((ext1 _ _).mono X1.out.size)).trans (hx2.mono (Nat.le_trans X1.out.size (by simp)))
         have f0 : w2.cell? ⟨b, o, none⟩ = some (.int .i64 k) := (hX2.cell (p := ⟨b, o, none⟩) lb0).trans h0
         have X2 := Lib.hid hX2
         clear hm2 hx2 hX2)
      | (go_at_call 29; refine (vfail_any _ _ _ _).mono ?_; rintro e w3 ⟨rfl, rfl⟩))
    go_ret2
    exact ⟨_, rfl, .at_ _ _ _ _ _ _ (by simp) (by simp) (by simp) (Below.chain (ext1 _ _) M2.out), HF0.out.ext (X2.out.trans ((ext1 _ _).mono X2.out.size)), X2.out.trans ((ext1 _ _).mono X2.out.size)⟩
end
end Go.Proofs.YtoncebfhkoabaaaDoor
