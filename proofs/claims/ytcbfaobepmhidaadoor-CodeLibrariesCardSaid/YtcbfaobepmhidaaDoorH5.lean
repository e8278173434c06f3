/- Walk of the document's Library. -/
import Derived.Test.YtcbfaobepmhidaaDoorH4
namespace Go.Proofs.YtcbfaobepmhidaaDoor
open Go.RowKit Go.Extern.Stop Go.Stop Go.Extern

theorem rlibrary_nil (A : Option Addr) (cap : Nat) (lp : Int) (B : Option Addr) (n capB : Nat) (w : World) :
    Calls Tryd.prog 27 #[.agg #[.slice A 0 cap, .int .i64 lp, .slice B n capB]] w (RefPost w (some ([(codeS, 0)], 1))) := by
  go_enter Tryd.func27, Tryd.ntmps27
  go_wp2_with (first | (go_at_call 20; refine (no_any _ _ _ _).mono ?_; rintro e w' ⟨b, rfl, hf, hx⟩; have HF := Lib.hid hf; have HX := Lib.hid hx; clear hf hx))
  go_ret
  exact ⟨_, rfl, ⟨b, rfl, HF.out⟩, (ext1 _ _).trans (HX.out.mono (by simp))⟩

theorem hasKey_take (ds : List DoorD) (z : Nat) (h : z < ds.length) (k : Int) : hasKey (ds.take (z + 1)) k = (hasKey (ds.take z) k || (ds[z].key == k)) := by
  rw [List.take_succ_eq_append_getElem h]; unfold hasKey; rw [List.any_append]; simp only [List.any_cons, List.any_nil, Bool.or_false]
/-- Which of the first y kinds may not be. -/
def badKs (a b c d : Int) : Nat → Bool
  | 0 => false
  | y + 1 => badKs a b c d y || !okK (kindAt a b c d y)
theorem badKs_four (a b c d : Int) : badKs a b c d 4 = !(okK a && okK b && okK c && okK d) := by
  simp [badKs, kindAt, Bool.or_assoc]
theorem badKs_succ (a b c d : Int) (y : Nat) : badKs a b c d (y + 1) = (badKs a b c d y || !okK (kindAt a b c d y)) := rfl

set_option maxHeartbeats 8000000 in
set_option maxRecDepth 100000 in
theorem rlibrary_rest (A : Option Addr) (cap : Nat) (l : List InsD) (lp : Int) (B : Option Addr) (capB : Nat) (ds : List DoorD) (hl0 : l ≠ []) (hm : (l.length : Int) ≤ 9223372036854775807) (hmd : (ds.length : Int) ≤ 9223372036854775807) (w : World) (hi : InsSl w A l) (hds : DoorsSl w B ds) :
    Calls Tryd.prog 27 #[.agg #[.slice A l.length cap, .int .i64 lp, .slice B ds.length capB]] w (RefPost w (match Ans.wrap (checkF l (fun x => mayF x l.length true)) with
    | some r => some r
    | none => match placeF lp l.length with
      | some r => some r
      | none => (firstDoor l.length [] ds 0).map fun (i : Nat) => ([(codeS, (i : Int))], 1))) := by
  have hl : ((l.length : Int) == 0) = false := beq_eq_false_iff_ne.2 (fun h => hl0 (List.eq_nil_of_length_eq_zero (by omega)))
  have HI := Lib.hid hi
  have HDS := Lib.hid hds
  clear hi hl0 hds
  generalize hr : Ans.wrap (checkF l (fun x => mayF x l.length true)) = r
  have HR := Lib.hid hr
  clear hr
  generalize hp : placeF lp l.length = pf
  have HP := Lib.hid hp
  clear hp
  go_enter Tryd.func27, Tryd.ntmps27
  go_wp2_with fail
  refine (again_any A cap l true hm _ (HI.out.ext (ext1 _ _))).mono ?_
  rintro e w1 ⟨v, rfl, hv, hx⟩
  rw [HR.out] at hv
  have X := Lib.hid (show Ext w w1 from (ext1 _ _).trans (hx.mono (by simp)))
  have c0 : w1.cell? ⟨w.heap.size, 0, none⟩ = some (.slice A l.length cap) := by rw [hx.cell (by simp)]; simp
  have c1 : w1.cell? ⟨w.heap.size, 1, none⟩ = some (.int .i64 lp) := by rw [hx.cell (by simp)]; simp
  have c2 : w1.cell? ⟨w.heap.size, 2, none⟩ = some (.slice B ds.length capB) := by rw [hx.cell (by simp)]; simp
  clear hx
  rcases r with _ | ⟨ls, k⟩
  · obtain rfl : v = .pointer none := hv
    by_cases h7 : lp < 0
    · obtain rfl : pf = some ([(codeS, 0)], 5) := HP.out.symm.trans (by unfold placeF; rw [if_pos (.inl h7), show max lp 0 = 0 by omega])
      go_wp2_with (first | (go_at_call 20; refine (no_any _ _ _ _).mono ?_; rintro e w' ⟨b, rfl, hf, hx⟩; have HF := Lib.hid hf; have HX := Lib.hid hx; clear hf hx))
      go_ret
      exact ⟨_, rfl, ⟨b, rfl, HF.out⟩, X.out.trans (HX.out.mono X.out.size)⟩
    · by_cases h8 : (l.length : Int) ≤ lp
      · obtain rfl : pf = some ([(codeS, lp)], 5) := HP.out.symm.trans (by unfold placeF; rw [if_pos (.inr h8), show max lp 0 = lp by omega])
        have h9 : 0 ≤ lp := by omega
        have hmx : max lp 0 = lp := by omega
        go_wp2_with (first | (go_at_call 20; refine (no_any _ _ _ _).mono ?_; rintro e w' ⟨b, rfl, hf, hx⟩; have HF := Lib.hid hf; have HX := Lib.hid hx; clear hf hx))
        go_ret
        exact ⟨_, rfl, ⟨b, rfl, HF.out⟩, X.out.trans (HX.out.mono X.out.size)⟩
      · obtain rfl : pf = none := HP.out.symm.trans (by unfold placeF; rw [if_neg (by omega)])
        have hlt2 : w.heap.size < w1.heap.size := World.block_lt_of_cell? _ _ c0
        have HDN := Lib.hid (show ∀ k, k < ds.length → ∃ b off, B = some ⟨b, off, none⟩ ∧ DoorsAt w b off ds from fun k hk => HDS.out (by intro e; subst e; simp at hk))
        generalize hN : ds.length = N at *
        have HN := Lib.hid hN
        clear hN
        generalize hL : l.length = L at *
        have HL := Lib.hid hL
        clear hL
        go_wp2_with fail
        go_loopw [4] (fun i wr => ∃ k : Nat, k ≤ N ∧ i = .int .i64 k ∧ Ext w1 wr ∧ Keys (ds.take k) ∧ firstDoor L [] ds 0 = firstDoor L (ds.take k) (ds.drop k) k) (fun i _ => N - (intOf i).toNat)
        case atStart => exact ⟨0, Nat.zero_le _, rfl, Below.refl _ _, Keys.nil, rfl⟩
        case round =>
          obtain ⟨k, hk, rfl, hx, hkeys, hall⟩ := hrel
          have hk' : k ≤ ds.length := by rw [HN.out]; exact hk
          have f0 : wr.cell? ⟨w.heap.size, 0, none⟩ = some (.slice A L cap) := (hx.cell (p := ⟨w.heap.size, 0, none⟩) hlt2).trans c0
          have f2 : wr.cell? ⟨w.heap.size, 2, none⟩ = some (.slice B N capB) := (hx.cell (p := ⟨w.heap.size, 2, none⟩) hlt2).trans c2
          by_cases hlt : k < N
          · obtain ⟨b, off, rfl, hat⟩ := HDN.out k hlt
            have hltd : k < ds.length := by rw [HN.out]; exact hlt
            obtain ⟨e0, e1, e2, e3, e4, e5⟩ := hat k hltd
            have HAT := Lib.hid hat
            have hD := firstDoor_at L ds k hltd
            rw [← hall] at hD
            have hT : ds.take (k + 1) = ds.take k ++ [ds[k]] := List.take_succ_eq_append_getElem hltd
            have h999 := hkeys.len
            rw [List.length_take, Nat.min_eq_left hk'] at h999
            generalize ds[k] = d at e0 e1 e2 e3 e4 e5 hD hT
            obtain ⟨key, pl, k0, k1, k2, k3⟩ := d
            simp only at e0 e1 e2 e3 e4 e5
            have lb := World.block_lt_of_cell? _ _ e0
            have HX := Lib.hid (show Ext w wr from X.out.trans (hx.mono X.out.size))
            have HX2 := Lib.hid hx
            rw [← HX.out.cell (p := ⟨b, off + k * 6, none⟩) lb] at e0
            rw [← HX.out.cell (p := ⟨b, off + k * 6 + 1, none⟩) lb] at e1
            rw [← HX.out.cell (p := ⟨b, off + k * 6 + 2, none⟩) lb] at e2
            rw [← HX.out.cell (p := ⟨b, off + k * 6 + 3, none⟩) lb] at e3
            rw [← HX.out.cell (p := ⟨b, off + k * 6 + 4, none⟩) lb] at e4
            rw [← HX.out.cell (p := ⟨b, off + k * 6 + 5, none⟩) lb] at e5
            have hbr : b < wr.heap.size := Nat.lt_of_lt_of_le lb HX.out.size
            have hwr : w.heap.size < wr.heap.size := Nat.lt_of_lt_of_le hlt2 hx.size
            have HD := Lib.hid hD
            have HT := Lib.hid hT
            have HK := Lib.hid hkeys
            clear hx hall hD hT hat c0 c1 c2 hkeys
            go_upto_region 12 with fail
            have g0 : (wr.alloc (.cells #[.int .i64 key, .int .i64 pl, .int .i64 k0, .int .i64 k1, .int .i64 k2, .int .i64 k3] 77)).cell? ⟨wr.heap.size, 0, none⟩ = some (.int .i64 key) := by simp
            have g1 : (wr.alloc (.cells #[.int .i64 key, .int .i64 pl, .int .i64 k0, .int .i64 k1, .int .i64 k2, .int .i64 k3] 77)).cell? ⟨wr.heap.size, 1, none⟩ = some (.int .i64 pl) := by simp
            have gk : ∀ y, y < 4 → (wr.alloc (.cells #[.int .i64 key, .int .i64 pl, .int .i64 k0, .int .i64 k1, .int .i64 k2, .int .i64 k3] 77)).cell? ⟨wr.heap.size, 2 + y, none⟩ = some (.int .i64 (kindAt k0 k1 k2 k3 y)) := by
              intro y hy
              have hc : y = 0 ∨ y = 1 ∨ y = 2 ∨ y = 3 := by omega
              rcases hc with rfl | rfl | rfl | rfl <;> simp [kindAt]
            have hE : Ext wr (wr.alloc (.cells #[.int .i64 key, .int .i64 pl, .int .i64 k0, .int .i64 k1, .int .i64 k2, .int .i64 k3] 77)) := ext1 _ _
            generalize wr.alloc (.cells #[.int .i64 key, .int .i64 pl, .int .i64 k0, .int .i64 k1, .int .i64 k2, .int .i64 k3] 77) = W at g0 g1 gk hE ⊢
            have GK := Lib.hid gk
            have EW := Lib.hid (HX.out.trans (hE.mono HX.out.size))
            have EW2 := Lib.hid (HX2.out.trans (hE.mono HX2.out.size))
            have b0 : W.cell? ⟨w.heap.size, 0, none⟩ = some (.slice A L cap) := (hE.cell (p := ⟨w.heap.size, 0, none⟩) hwr).trans f0
            have b2 : W.cell? ⟨w.heap.size, 2, none⟩ = some (.slice (some ⟨b, off, none⟩) N capB) := (hE.cell (p := ⟨w.heap.size, 2, none⟩) hwr).trans f2
            clear gk hE e0 e1 e2 e3 e4 e5 f0 f2
            go_cut [6] (fun s wx => s = .bool (!okDoor L ⟨key, pl, k0, k1, k2, k3⟩) ∧ wx = W)
            case first =>
              go_wp2_with fail
              all_goals (go_meet; refine ⟨congrArg Value.bool ?_, rfl⟩; rw [Bool.eq_iff_iff]; simp [okDoor] <;> omega)
            case rest =>
              obtain ⟨rfl, rfl⟩ := hcut
              generalize hb : (!okDoor L ⟨key, pl, k0, k1, k2, k3⟩) = bb
              have HB := Lib.hid hb
              clear hb g1
              have hk2 : (k : Int) < 1000 := by omega
              go_wp2_with fail
              go_loop [6, 7] (fun s j => ∃ y : Nat, y ≤ 4 ∧ j = .int .i64 y ∧ s = .bool (bb || badKs k0 k1 k2 k3 y)) (fun _ j => 4 - (intOf j).toNat)
              case atStart => exact ⟨0, by omega, rfl, by simp [badKs]⟩
              case round =>
                obtain ⟨y, hy, rfl, rfl⟩ := hrel
                by_cases hy4 : y < 4
                · have ck := GK.out y hy4
                  have hs := badKs_succ k0 k1 k2 k3 y
                  generalize kindAt k0 k1 k2 k3 y = K at ck hs
                  have HS := Lib.hid (show (bb || badKs k0 k1 k2 k3 (y + 1)) = ((bb || badKs k0 k1 k2 k3 y) || !okK K) by rw [hs, Bool.or_assoc])
                  clear hs
                  generalize (bb || badKs k0 k1 k2 k3 y) = s at HS ⊢
                  cases s with
                  | true =>
                    go_wp2_with fail
                    go_round
                    case rel => exact ⟨y + 1, by omega, by go_num, by rw [HS.out]; rfl⟩
                    case measure => simp [intOf]; omega
                  | false =>
                    by_cases q1 : K < 0
                    · have HS2 := Lib.hid (show (bb || badKs k0 k1 k2 k3 (y + 1)) = true by rw [HS.out]; simp [okK]; omega)
                      go_wp2_with fail
                      go_round
                      case rel => exact ⟨y + 1, by omega, by go_num, by rw [HS2.out]⟩
                      case measure => simp [intOf]; omega
                    · by_cases q2 : 7 < K
                      · have HS2 := Lib.hid (show (bb || badKs k0 k1 k2 k3 (y + 1)) = true by rw [HS.out]; simp [okK]; omega)
                        go_wp2_with fail
                        go_round
                        case rel => exact ⟨y + 1, by omega, by go_num, by rw [HS2.out]⟩
                        case measure => simp [intOf]; omega
                      · have HS2 := Lib.hid (show (bb || badKs k0 k1 k2 k3 (y + 1)) = false by rw [HS.out]; simp [okK]; omega)
                        go_wp2_with fail
                        go_round
                        case rel => exact ⟨y + 1, by omega, by go_num, by rw [HS2.out]⟩
                        case measure => simp [intOf]; omega
                · obtain rfl : y = 4 := by omega
                  generalize hb4 : (bb || badKs k0 k1 k2 k3 4) = b4
                  have HB4 := Lib.hid hb4
                  clear hb4
                  go_wp2_with fail
                  go_loopw [6, 8] (fun s j wz => ∃ z : Nat, z ≤ k ∧ j = .int .i64 z ∧ s = .bool (b4 || hasKey (ds.take z) key) ∧ ∃ n, wz = World.drewN wc n) (fun _ j _ => k - (intOf j).toNat)
                  case atStart => exact ⟨0, by omega, rfl, by simp [hasKey], 0, rfl⟩
                  case round =>
                    obtain ⟨z, hz, rfl, rfl, nq, rfl⟩ := hrel
                    by_cases hzk : z < k
                    · have hzd : z < ds.length := by omega
                      obtain ⟨cz, _, _, _, _, _⟩ := HAT.out z hzd
                      have czW := (EW.out.cell (p := ⟨b, off + z * 6, none⟩) (World.block_lt_of_cell? _ _ cz)).trans cz
                      have hs := hasKey_take ds z hzd key
                      clear cz
                      generalize ds[z].key = kz at czW hs
                      have HS := Lib.hid (show (b4 || hasKey (ds.take (z + 1)) key) = ((b4 || hasKey (ds.take z) key) || (kz == key)) by rw [hs, Bool.or_assoc])
                      clear hs
                      have hzI : (z : Int) < (k : Int) := by omega
                      have hz1000 : (z : Int) < 1000 := by omega
                      have hzN : (z : Int) < (N : Int) := by omega
                      have hz0 : (0 : Int) ≤ (z : Int) := by omega
                      generalize (b4 || hasKey (ds.take z) key) = s at HS ⊢
                      cases s with
                      | true =>
                        go_wp2_with fail
                        go_quiet (fail)
                        go_wp2_with fail
                        go_roundw
                        case rel => exact ⟨z + 1, by omega, by go_num, by rw [HS.out]; rfl, _, rfl⟩
                        case measure => simp [intOf]; omega
                      | false =>
                        go_wp2_with fail
                        go_quiet (fail)
                        go_wp2_with fail
                        go_roundw
                        case rel => exact ⟨z + 1, by omega, by go_num, by rw [HS.out]; rfl, _, rfl⟩
                        case measure => simp [intOf]; omega
                    · obtain rfl : z = k := by omega
                      have HR2 := Lib.hid (show okRow L (ds.take z) ⟨key, pl, k0, k1, k2, k3⟩ = !(b4 || hasKey (ds.take z) key) by
                        rw [← HB4.out, ← HB.out, badKs_four]
                        unfold okRow okKinds
                        cases okDoor L ⟨key, pl, k0, k1, k2, k3⟩ <;> cases hasKey (ds.take z) key <;> cases (okK k0 && okK k1 && okK k2 && okK k3) <;> rfl)
                      generalize (b4 || hasKey (ds.take z) key) = s at HR2 ⊢
                      have EX := Lib.hid (show Ext w (World.drewN wc nq) from EW.out.trans ⟨rfl, rfl, rfl, Nat.le_refl _, fun _ _ => rfl⟩)
                      have EX2 := Lib.hid (show Ext w1 (World.drewN wc nq) from EW2.out.trans ⟨rfl, rfl, rfl, Nat.le_refl _, fun _ _ => rfl⟩)
                      cases s with
                      | true =>
                        have PO := Lib.hid (show ((firstDoor L [] ds 0).map fun (i : Nat) => ([(codeS, (i : Int))], (1 : Int))) = some ([(codeS, (z : Int))], 1) by rw [HD.out, if_neg (by rw [HR2.out]; simp)]; rfl)
                        go_wp2_with (first | (go_at_call 20; refine (no_any _ _ _ _).mono ?_; rintro e w' ⟨b, rfl, hf, hx⟩; have HF := Lib.hid hf; have HX3 := Lib.hid hx; clear hf hx))
                        go_ret
                        exact ⟨_, rfl, by rw [HL.out, PO.out]; exact ⟨_, rfl, HF.out⟩, EX.out.trans (HX3.out.mono EX.out.size)⟩
                      | false =>
                        have HGO := Lib.hid (show firstDoor L [] ds 0 = firstDoor L (ds.take (z + 1)) (ds.drop (z + 1)) (z + 1) by rw [HD.out, if_pos (by rw [HR2.out]; rfl)])
                        have HKE := Lib.hid (show Keys (ds.take (z + 1)) by rw [HT.out]; exact HK.out.snoc (n := L) (by rw [HR2.out]; rfl))
                        go_wp2_with fail
                        go_roundw
                        case rel => exact ⟨z + 1, by omega, by go_num, EX2.out, HKE.out, HGO.out⟩
                        case measure => simp [intOf]; omega
          · have hkn : k = ds.length := by rw [HN.out]; omega
            have HX := Lib.hid (show Ext w wr from X.out.trans (hx.mono X.out.size))
            have PO := Lib.hid (show ((firstDoor L [] ds 0).map fun (i : Nat) => ([(codeS, (i : Int))], (1 : Int))) = none by rw [hall, hkn, List.drop_length]; rfl)
            clear hx hkeys hall hkn hk'
            go_wp2_with fail
            go_ret
            exact ⟨_, rfl, by rw [HL.out, PO.out]; rfl, HX.out⟩
  · obtain ⟨c, rfl, hc⟩ := hv
    have HC := Lib.hid hc
    clear hc
    go_wp2_with fail
    go_ret
    exact ⟨_, rfl, ⟨c, rfl, HC.out⟩, X.out⟩
theorem rlibrary_any (A : Option Addr) (cap : Nat) (l : List InsD) (lp : Int) (B : Option Addr) (capB : Nat) (ds : List DoorD) (hm : (l.length : Int) ≤ 9223372036854775807) (hmd : (ds.length : Int) ≤ 9223372036854775807) (w : World) (hi : InsSl w A l) (hds : DoorsSl w B ds) :
    Calls Tryd.prog 27 #[.agg #[.slice A l.length cap, .int .i64 lp, .slice B ds.length capB]] w (RefPost w (libraryF l lp ds)) := by
  unfold libraryF
  by_cases hl : l = []
  · subst hl
    rw [if_pos rfl]
    exact rlibrary_nil A cap lp B ds.length capB w
  · rw [if_neg hl]
    exact rlibrary_rest A cap l lp B capB ds hl hm hmd w hi hds
end Go.Proofs.YtcbfaobepmhidaaDoor
