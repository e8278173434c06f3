/- Walk of code.Library. -/
import Derived.Test.YtcbfaobepmhidaaDoorH3
namespace Go.Proofs.YtcbfaobepmhidaaDoor
open Go.RowKit Go.Extern.Stop Go.Stop Go.Extern

theorem Tryd.seen0 : Tryd.zeroCells74 = Array.replicate 1000 (.bool false) := by kernel_rfl
theorem seen_new (j : Nat) (h : j < 1000) : Tryd.zeroCells74[j]? = some (.bool false) := by
  rw [Tryd.seen0, Array.getElem?_replicate, if_pos h]
/-- Which keys were seen. -/
def SeenAt (w : World) (S : Nat) (pre : List DoorD) : Prop := ∀ j, j < 1000 → w.cell? ⟨S, j, none⟩ = some (.bool (hasKey pre (j : Int))) ∧ w.frozen? ⟨S, j, none⟩ = false
theorem SeenAt.new (w : World) : SeenAt (w.alloc (.cells Tryd.zeroCells74 74)) w.heap.size [] := by
  intro j hj
  exact ⟨by rw [World.cell?_alloc_at _ _ _ _ rfl]; exact seen_new j hj, World.frozen?_alloc_at _ _ _ _ rfl⟩
theorem SeenAt.below {w w' : World} {S B : Nat} {pre : List DoorD} (h : SeenAt w S pre) (hb : Below B w w') (hS : S < B) : SeenAt w' S pre := by
  intro j hj
  obtain ⟨h1, h2⟩ := h j hj
  exact ⟨(hb.cell (p := ⟨S, j, none⟩) hS).trans h1, (hb.frozen (p := ⟨S, j, none⟩) hS).trans h2⟩
theorem SeenAt.set {w : World} {S : Nat} {pre : List DoorD} (h : SeenAt w S pre) (d : DoorD) (k : Nat) (hk : k < 1000) (hd : d.key = k) : SeenAt (w.setCell ⟨S, k, none⟩ (.bool true)) S (pre ++ [d]) := by
  intro j hj
  obtain ⟨h1, h2⟩ := h j hj
  refine ⟨?_, by rw [World.frozen?_setCell]; exact h2⟩
  have e : hasKey (pre ++ [d]) (j : Int) = (hasKey pre (j : Int) || (d.key == (j : Int))) := by simp [hasKey]
  by_cases hjk : j = k
  · subst hjk
    rw [World.cell?_setCell_same _ _ _ h1, e, hd]; simp
  · rw [World.cell?_setCell_other _ _ _ _ (by simp <;> omega), h1, e, hd]
    have : ((k : Int) == (j : Int)) = false := beq_eq_false_iff_ne.2 (by omega)
    rw [this, Bool.or_false]
def kindAt (a b c d : Int) (j : Nat) : Int := if j = 0 then a else if j = 1 then b else if j = 2 then c else d
theorem Tryd.kinds0 (a b c d : Int) (w : World) : (Instr.index 75 (.agg #[.int .i64 a, .int .i64 b, .int .i64 c, .int .i64 d]) (.int .i64 0)).run Tryd.prog w = .ok (.int .i64 a) w := by kernel_rfl
theorem Tryd.kinds1 (a b c d : Int) (w : World) : (Instr.index 75 (.agg #[.int .i64 a, .int .i64 b, .int .i64 c, .int .i64 d]) (.int .i64 1)).run Tryd.prog w = .ok (.int .i64 b) w := by kernel_rfl
theorem Tryd.kinds2 (a b c d : Int) (w : World) : (Instr.index 75 (.agg #[.int .i64 a, .int .i64 b, .int .i64 c, .int .i64 d]) (.int .i64 2)).run Tryd.prog w = .ok (.int .i64 c) w := by kernel_rfl
theorem Tryd.kinds3 (a b c d : Int) (w : World) : (Instr.index 75 (.agg #[.int .i64 a, .int .i64 b, .int .i64 c, .int .i64 d]) (.int .i64 3)).run Tryd.prog w = .ok (.int .i64 d) w := by kernel_rfl
theorem Tryd.kindsAt (a b c d : Int) (j : Nat) (hj : j < 4) (w : World) : (Instr.index 75 (.agg #[.int .i64 a, .int .i64 b, .int .i64 c, .int .i64 d]) (.int .i64 j)).run Tryd.prog w = .ok (.int .i64 (kindAt a b c d j)) w := by
  have h : j = 0 ∨ j = 1 ∨ j = 2 ∨ j = 3 := by omega
  rcases h with rfl | rfl | rfl | rfl
  · exact Tryd.kinds0 a b c d w
  · exact Tryd.kinds1 a b c d w
  · exact Tryd.kinds2 a b c d w
  · exact Tryd.kinds3 a b c d w

theorem err_leaf2 (n k : Int) (w : World) (O : Obj) : ErrPost ((w.alloc O).alloc (.cells #[.string codeS, .int .i64 n, .iface 44 (.int .i64 k)] 71)) (.iface 67 (.pointer (some ⟨w.heap.size + 1, 0, none⟩))) (some ([(codeS, n)], k)) := by
  simpa using err_leaf n k (w.alloc O)
theorem library_nil (A : Option Addr) (cap : Nat) (lp : Int) (B : Option Addr) (n capB : Nat) (w : World) :
    Calls Tryd.prog 25 #[.agg #[.slice A 0 cap, .int .i64 lp, .slice B n capB]] w (CheckPost w (some ([(codeS, 0)], 1))) := by
  go_enter Tryd.func25, Tryd.ntmps25
  go_wp2_with (first | (go_at_call 30; refine (fail_any _ _ _ _).mono ?_; rintro e w' ⟨rfl, rfl⟩))
  go_ret
  exact ⟨_, rfl, by simpa using err_leaf 0 1 (w.alloc _), (ext1 _ _).trans ((ext1 _ _).mono (by simp))⟩

set_option maxHeartbeats 4000000 in
set_option maxRecDepth 100000 in
theorem library_rest (A : Option Addr) (cap : Nat) (l : List InsD) (lp : Int) (B : Option Addr) (capB : Nat) (ds : List DoorD) (hl0 : l ≠ []) (hm : (l.length : Int) ≤ 9223372036854775807) (hmd : (ds.length : Int) ≤ 9223372036854775807) (w : World) (hi : InsSl w A l) (hds : DoorsSl w B ds) (hg : Gl w) :
    Calls Tryd.prog 25 #[.agg #[.slice A l.length cap, .int .i64 lp, .slice B ds.length capB]] w (CheckPost w (match Ans.wrap (checkF l (fun x => mayF x l.length true)) with
    | some r => some r
    | none => match placeF lp l.length with
      | some r => some r
      | none => (firstDoor l.length [] ds 0).map fun (i : Nat) => ([(codeS, (i : Int))], 1))) := by
  have hl : ((l.length : Int) == 0) = false := beq_eq_false_iff_ne.2 (fun h => hl0 (List.eq_nil_of_length_eq_zero (by omega)))
  have HI := Lib.hid hi
  have HG := Lib.hid hg
  have HDS := Lib.hid hds
  clear hi hg hl0 hds
  generalize hr : Ans.wrap (checkF l (fun x => mayF x l.length true)) = r
  have HR := Lib.hid hr
  clear hr
  generalize hp : placeF lp l.length = pf
  have HP := Lib.hid hp
  clear hp
  go_enter Tryd.func25, Tryd.ntmps25
  go_wp2_with fail
  refine (checked_any A cap l true hm _ (HI.out.ext (ext1 _ _)) (Gl.ext HG.out (ext1 _ _))).mono ?_
  rintro e w1 ⟨v, rfl, hv, hx⟩
  rw [HR.out] at hv
  have X := Lib.hid (show Ext w w1 from (ext1 _ _).trans (hx.mono (by simp)))
  have c0 : w1.cell? ⟨w.heap.size, 0, none⟩ = some (.slice A l.length cap) := by rw [hx.cell (by simp)]; simp
  have c1 : w1.cell? ⟨w.heap.size, 1, none⟩ = some (.int .i64 lp) := by rw [hx.cell (by simp)]; simp
  have c2 : w1.cell? ⟨w.heap.size, 2, none⟩ = some (.slice B ds.length capB) := by rw [hx.cell (by simp)]; simp
  clear hx
  rcases r with _ | ⟨ls, k⟩
  · obtain rfl : v = .nilIface := hv
    go_wp2_with fail
    refine (place_any _ _ _).mono ?_
    rintro e w2 ⟨v, rfl, hv, hx⟩
    rw [HP.out] at hv
    have hX2 := X.out.trans (hx.mono X.out.size)
    have d0 := (hx.cell (p := ⟨w.heap.size, 0, none⟩) (World.block_lt_of_cell? _ _ c0)).trans c0
    have d2 := (hx.cell (p := ⟨w.heap.size, 2, none⟩) (World.block_lt_of_cell? _ _ c2)).trans c2
    have X2 := Lib.hid hX2
    clear hx c0 c1 c2 hX2
    rcases pf with _ | ⟨ls, k⟩
    · obtain rfl : v = .nilIface := hv
      have hlt2 : w.heap.size < w2.heap.size := World.block_lt_of_cell? _ _ d0
      have HDN := Lib.hid (show ∀ k, k < ds.length → ∃ b off, B = some ⟨b, off, none⟩ ∧ DoorsAt w b off ds from fun k hk => HDS.out (by intro e; subst e; simp at hk))
      generalize hN : ds.length = N at *
      have HN := Lib.hid hN
      clear hN
      generalize hL : l.length = L at *
      have HL := Lib.hid hL
      clear hL
      go_wp2_with fail
      go_loopw [34] (fun i wr => ∃ k : Nat, k ≤ N ∧ i = .int .i64 k ∧ Ext w2 wr ∧ w2.heap.size < wr.heap.size ∧ SeenAt wr w2.heap.size (ds.take k) ∧ firstDoor L [] ds 0 = firstDoor L (ds.take k) (ds.drop k) k) (fun i _ => N - (intOf i).toNat)
      case atStart => exact ⟨0, Nat.zero_le _, rfl, ext1 _ _, by simp, SeenAt.new w2, rfl⟩
      case round =>
        obtain ⟨k, hk, rfl, hx, hsz, hseen, hall⟩ := hrel
        have hk' : k ≤ ds.length := by rw [HN.out]; exact hk
        by_cases hlt : k < N
        · obtain ⟨b, off, rfl, hat⟩ := HDN.out k hlt
          have hltd : k < ds.length := by rw [HN.out]; exact hlt
          obtain ⟨c0, c1, c2, c3, c4, c5⟩ := hat k hltd
          have hD := firstDoor_at L ds k hltd
          rw [← hall] at hD
          have hT : ds.take (k + 1) = ds.take k ++ [ds[k]] := List.take_succ_eq_append_getElem hltd
          generalize ds[k] = d at c0 c1 c2 c3 c4 c5 hD hT
          obtain ⟨key, pl, k0, k1, k2, k3⟩ := d
          simp only at c0 c1 c2 c3 c4 c5
          have lb := World.block_lt_of_cell? _ _ c0
          have HX := Lib.hid (show Ext w wr from X2.out.trans (hx.mono X2.out.size))
          have HX2 := Lib.hid hx
          have SE := Lib.hid hseen
          rw [← HX.out.cell (p := ⟨b, off + k * 6, none⟩) lb] at c0
          rw [← HX.out.cell (p := ⟨b, off + k * 6 + 1, none⟩) lb] at c1
          rw [← HX.out.cell (p := ⟨b, off + k * 6 + 2, none⟩) lb] at c2
          rw [← HX.out.cell (p := ⟨b, off + k * 6 + 3, none⟩) lb] at c3
          rw [← HX.out.cell (p := ⟨b, off + k * 6 + 4, none⟩) lb] at c4
          rw [← HX.out.cell (p := ⟨b, off + k * 6 + 5, none⟩) lb] at c5
          have e0 : wr.cell? ⟨w.heap.size, 0, none⟩ = some (.slice A L cap) := (hx.cell (p := ⟨w.heap.size, 0, none⟩) hlt2).trans d0
          have hbr : b < wr.heap.size := Nat.lt_of_lt_of_le lb HX.out.size
          have hwr : w.heap.size < wr.heap.size := by omega
          have HALL := Lib.hid hall
          have HD := Lib.hid hD
          have HT := Lib.hid hT
          clear hx hseen hall hD hT hat d0 d2
          have PO := fun (h : ¬ okRow L (ds.take k) ⟨key, pl, k0, k1, k2, k3⟩ = true) => show ((firstDoor L [] ds 0).map fun (i : Nat) => ([(codeS, (i : Int))], (1 : Int))) = some ([(codeS, (k : Int))], 1) by rw [HD.out, if_neg h]; rfl
          by_cases h1 : key < 1
          · have PO := Lib.hid (PO (by simp [okRow, okDoor]; omega))
            clear HD HT
            go_wp2_with (first | (go_at_call 30; refine (fail_any _ _ _ _).mono ?_; rintro e w' ⟨rfl, rfl⟩))
            go_ret
            exact ⟨_, rfl, by rw [HL.out, PO.out]; exact err_leaf2 _ _ _ _, HX.out.trans (((ext1 wr _).trans ((ext1 _ _).mono (by simp))).mono HX.out.size)⟩
          · by_cases h2 : 999 < key
            · have PO := Lib.hid (PO (by simp [okRow, okDoor]; omega))
              clear HD HT
              go_wp2_with (first | (go_at_call 30; refine (fail_any _ _ _ _).mono ?_; rintro e w' ⟨rfl, rfl⟩))
              go_ret
              exact ⟨_, rfl, by rw [HL.out, PO.out]; exact err_leaf2 _ _ _ _, HX.out.trans (((ext1 wr _).trans ((ext1 _ _).mono (by simp))).mono HX.out.size)⟩
            · have h3 : 0 ≤ key := by omega
              have h4 : key < 1000 := by omega
              obtain ⟨q, rfl⟩ := Int.eq_ofNat_of_zero_le h3
              have sf := (SE.out q (by omega)).1
              have sz := (SE.out q (by omega)).2
              generalize hq : hasKey (ds.take k) (q : Int) = hk2 at sf
              cases hk2 with
              | true =>
                have PO := Lib.hid (PO (by simp [okRow, hq]))
                clear HD HT hq
                go_wp2_with (first | (go_at_call 30; refine (fail_any _ _ _ _).mono ?_; rintro e w' ⟨rfl, rfl⟩))
                go_ret
                exact ⟨_, rfl, by rw [HL.out, PO.out]; exact err_leaf2 _ _ _ _, HX.out.trans (((ext1 wr _).trans ((ext1 _ _).mono (by simp))).mono HX.out.size)⟩
              | false =>
                by_cases h5 : pl < 0
                · have PO := Lib.hid (PO (by simp [okRow, okDoor]; omega))
                  clear HD HT hq
                  go_wp2_with (first | (go_at_call 30; refine (fail_any _ _ _ _).mono ?_; rintro e w' ⟨rfl, rfl⟩))
                  go_ret
                  exact ⟨_, rfl, by rw [HL.out, PO.out]; exact err_leaf2 _ _ _ _, HX.out.trans (((ext1 wr _).trans ((ext1 _ _).mono (by simp))).mono HX.out.size)⟩
                · by_cases h6 : L ≤ pl
                  · have h7 : (L : Int) ≤ pl := h6
                    have PO := Lib.hid (PO (by simp [okRow, okDoor]; omega))
                    clear HD HT hq
                    go_wp2_with (first | (go_at_call 30; refine (fail_any _ _ _ _).mono ?_; rintro e w' ⟨rfl, rfl⟩))
                    go_ret
                    exact ⟨_, rfl, by rw [HL.out, PO.out]; exact err_leaf2 _ _ _ _, HX.out.trans (((ext1 wr _).trans ((ext1 _ _).mono (by simp))).mono HX.out.size)⟩
                  · have h7 : ¬ (L : Int) ≤ pl := h6
                    have POK := Lib.hid (show okKinds ⟨q, pl, k0, k1, k2, k3⟩ = false → ((firstDoor L [] ds 0).map fun (i : Nat) => ([(codeS, (i : Int))], (1 : Int))) = some ([(codeS, (k : Int))], 1) from fun h => PO (by unfold okRow; rw [h]; simp))
                    have PGO := Lib.hid (show okKinds ⟨q, pl, k0, k1, k2, k3⟩ = true → okRow L (ds.take k) ⟨q, pl, k0, k1, k2, k3⟩ = true from fun h => by unfold okRow okDoor; rw [h, hq]; simp; omega)
                    clear PO hq
                    go_wp2_with fail
                    have hE : Ext w ((wr.setCell ⟨w2.heap.size, q, none⟩ (.bool true)).alloc (.cells #[.int .i64 q, .int .i64 pl, .int .i64 k0, .int .i64 k1, .int .i64 k2, .int .i64 k3] 77)) := (HX.out.setCell (p := ⟨w2.heap.size, q, none⟩) (Nat.le_of_lt hlt2) _).alloc (by simpa using HX.out.size) _
                    have hE2 : Ext w2 ((wr.setCell ⟨w2.heap.size, q, none⟩ (.bool true)).alloc (.cells #[.int .i64 q, .int .i64 pl, .int .i64 k0, .int .i64 k1, .int .i64 k2, .int .i64 k3] 77)) := (HX2.out.setCell (p := ⟨w2.heap.size, q, none⟩) (Nat.le_refl _) _).alloc (by simpa using HX2.out.size) _
                    have hS : SeenAt ((wr.setCell ⟨w2.heap.size, q, none⟩ (.bool true)).alloc (.cells #[.int .i64 q, .int .i64 pl, .int .i64 k0, .int .i64 k1, .int .i64 k2, .int .i64 k3] 77)) w2.heap.size (ds.take (k + 1)) := by
                      rw [HT.out]
                      exact (SE.out.set ⟨q, pl, k0, k1, k2, k3⟩ q (by omega) rfl).below (ext1 _ _) (by simpa using hsz)
                    have hsW : w2.heap.size < ((wr.setCell ⟨w2.heap.size, q, none⟩ (.bool true)).alloc (.cells #[.int .i64 q, .int .i64 pl, .int .i64 k0, .int .i64 k1, .int .i64 k2, .int .i64 k3] 77)).heap.size := by simp; omega
                    generalize (wr.setCell ⟨w2.heap.size, q, none⟩ (.bool true)).alloc (.cells #[.int .i64 q, .int .i64 pl, .int .i64 k0, .int .i64 k1, .int .i64 k2, .int .i64 k3] 77) = W at hE hE2 hS hsW ⊢
                    have EW := Lib.hid hE
                    have EW2 := Lib.hid hE2
                    have SW := Lib.hid hS
                    clear hE hE2 hS c0 c1 c2 c3 c4 c5 sf sz e0 lb hbr hwr hsz
                    go_loop [74] (fun j => ∃ y : Nat, y ≤ 4 ∧ j = .int .i64 y ∧ ∀ i, i < y → okK (kindAt k0 k1 k2 k3 i) = true) (fun j => 4 - (intOf j).toNat)
                    case atStart => exact ⟨0, by omega, rfl, fun i hi => by omega⟩
                    case round =>
                      obtain ⟨y, hy, rfl, hall⟩ := hrel
                      by_cases hy4 : y < 4
                      · have ix := Tryd.kindsAt k0 k1 k2 k3 y hy4
                        have hKall := Lib.hid hall
                        clear hall
                        have NOK := Lib.hid (show okK (kindAt k0 k1 k2 k3 y) = false → okKinds ⟨q, pl, k0, k1, k2, k3⟩ = false from fun h => by
                          unfold okKinds
                          have hc : y = 0 ∨ y = 1 ∨ y = 2 ∨ y = 3 := by omega
                          rcases hc with rfl | rfl | rfl | rfl <;> simp [kindAt] at h <;> simp [h])
                        have YOK := Lib.hid (show okK (kindAt k0 k1 k2 k3 y) = true → ∀ i, i < y + 1 → okK (kindAt k0 k1 k2 k3 i) = true from fun h i hi => by
                          by_cases e : i = y
                          · rw [e]; exact h
                          · exact hKall.out i (by omega))
                        generalize kindAt k0 k1 k2 k3 y = K at ix NOK YOK
                        by_cases g1 : K < 0
                        · have PO := Lib.hid (POK.out (NOK.out (by simp [okK]; omega)))
                          go_wp2_with (first | (go_at_call 30; refine (fail_any _ _ _ _).mono ?_; rintro e w' ⟨rfl, rfl⟩))
                          go_ret
                          exact ⟨_, rfl, by rw [HL.out, PO.out]; exact err_leaf _ _ _, EW.out.trans ((ext1 _ _).mono EW.out.size)⟩
                        · by_cases g2 : 7 < K
                          · have PO := Lib.hid (POK.out (NOK.out (by simp [okK]; omega)))
                            go_wp2_with (first | (go_at_call 30; refine (fail_any _ _ _ _).mono ?_; rintro e w' ⟨rfl, rfl⟩))
                            go_ret
                            exact ⟨_, rfl, by rw [HL.out, PO.out]; exact err_leaf _ _ _, EW.out.trans ((ext1 _ _).mono EW.out.size)⟩
                          · have YY := Lib.hid (YOK.out (by simp [okK]; omega))
                            go_wp2_with fail
                            go_round
                            case rel => exact ⟨y + 1, by omega, by go_num, YY.out⟩
                            case measure => simp [intOf]; omega
                      · obtain rfl : y = 4 := by omega
                        have GO := Lib.hid (PGO.out (by
                          have e0 := hall 0 (by omega)
                          have e1 := hall 1 (by omega)
                          have e2 := hall 2 (by omega)
                          have e3 := hall 3 (by omega)
                          simp [kindAt] at e0 e1 e2 e3
                          unfold okKinds
                          simp [e0, e1, e2, e3]))
                        have HGO := Lib.hid (show firstDoor L [] ds 0 = firstDoor L (ds.take (k + 1)) (ds.drop (k + 1)) (k + 1) by rw [HD.out, if_pos GO.out])
                        clear hall
                        go_wp2_with fail
                        go_roundw
                        case rel => exact ⟨k + 1, by omega, by go_num, EW2.out, hsW, SW.out, HGO.out⟩
                        case measure => simp [intOf]; omega
        · have hkn : k = ds.length := by rw [HN.out]; omega
          have HX := Lib.hid (show Ext w wr from X2.out.trans (hx.mono X2.out.size))
          have PO := Lib.hid (show ((firstDoor L [] ds 0).map fun (i : Nat) => ([(codeS, (i : Int))], (1 : Int))) = none by rw [hall, hkn, List.drop_length]; rfl)
          clear hx hseen hall hkn hk'
          go_wp2_with fail
          go_ret
          exact ⟨_, rfl, by rw [HL.out, PO.out]; rfl, HX.out⟩
    · obtain ⟨c, rfl, hc⟩ := hv
      have HC := Lib.hid hc
      clear hc
      go_wp2_with fail
      go_ret
      exact ⟨_, rfl, ⟨c, rfl, HC.out⟩, X2.out⟩
  · obtain ⟨c, rfl, hc⟩ := hv
    have HC := Lib.hid hc
    clear hc
    go_wp2_with fail
    go_ret
    exact ⟨_, rfl, ⟨c, rfl, HC.out⟩, X.out⟩
theorem library_any (A : Option Addr) (cap : Nat) (l : List InsD) (lp : Int) (B : Option Addr) (capB : Nat) (ds : List DoorD) (hm : (l.length : Int) ≤ 9223372036854775807) (hmd : (ds.length : Int) ≤ 9223372036854775807) (w : World) (hi : InsSl w A l) (hds : DoorsSl w B ds) (hg : Gl w) :
    Calls Tryd.prog 25 #[.agg #[.slice A l.length cap, .int .i64 lp, .slice B ds.length capB]] w (CheckPost w (libraryF l lp ds)) := by
  unfold libraryF
  by_cases hl : l = []
  · subst hl
    rw [if_pos rfl]
    exact library_nil A cap lp B ds.length capB w
  · rw [if_neg hl]
    exact library_rest A cap l lp B capB ds hl hm hmd w hi hds hg
end Go.Proofs.YtcbfaobepmhidaaDoor
