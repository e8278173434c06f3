/- Walk of distaffkeep.In over a failure with one name. -/
import Derived.Test.YtoncebfhkoabaaaDoorD3
import Derived.Deep.RegionHeld3
namespace Go.Proofs.YtoncebfhkoabaaaDoor
open Go.RowKit Go.Extern.Stop Go.Stop Go.Extern

set_option maxHeartbeats 4000000 in
set_option maxRecDepth 100000 in
theorem in_one (nm nm2 : ByteArray) (n n2 k : Int) (b : Nat) (w : World) (hF : FailAt w b [(nm2, n2)] k) :
    Calls Tryd.prog 15 #[.string nm, .int .i64 n, .pointer (some ⟨b, 0, none⟩)] w (RefPost w (some ([(nm, n), (nm2, n2)], k))) := by
  obtain ⟨i0, hi0, hz0, hz1, hz2⟩ := info_parts Tryd.strInfo
  obtain ⟨i1, hj0, hy0, hy1, hy2⟩ := info_parts Tryd.intInfoD
  obtain ⟨bl, bp, cl, cp, h0, h1, h2, hs3, hs4⟩ := hF
  have h3 : w.cell? ⟨bl, 0, none⟩ = some (.string nm2) := hs3 0 (by simp)
  have h4 : w.cell? ⟨bp, 0, none⟩ = some (.int .i64 n2) := hs4 0 (by simp)
  have h0 : w.cell? ⟨b, 0, none⟩ = some (.slice (some ⟨bl, 0, none⟩) 1 cl) := h0
  have h1 : w.cell? ⟨b, 1, none⟩ = some (.slice (some ⟨bp, 0, none⟩) 1 cp) := h1
  have KW := Lib.hid (show ∀ W, Ext w W → ∀ p v, w.cell? p = some v → W.cell? p = some v from fun W hx p v h => (hx.cell (World.block_lt_of_cell? _ _ h)).trans h)
  have KS := Lib.hid (show ∀ W, Ext w W → W.cell? ⟨b, 0, none⟩ = some (.slice (some ⟨bl, 0, none⟩) 1 cl) ∧ W.cell? ⟨b, 1, none⟩ = some (.slice (some ⟨bp, 0, none⟩) 1 cp) ∧ W.cell? ⟨b, 2, none⟩ = some (.int .i64 k) from fun W hx => ⟨KW.out W hx _ _ h0, KW.out W hx _ _ h1, KW.out W hx _ _ h2⟩)
  clear hs3 hs4
  go_enter Tryd.func15, Tryd.ntmps15
  go_wp2_with fail
  go_region_held3 (fun w' => w'.cell? ⟨b, 0, none⟩ = some (.slice (some ⟨bl, 0, none⟩) 1 cl) ∧ w'.cell? ⟨b, 1, none⟩ = some (.slice (some ⟨bp, 0, none⟩) 1 cp) ∧ w'.cell? ⟨b, 2, none⟩ = some (.int .i64 k))
    (exact KS.out _ (by (repeat (first | exact Below.refl _ _ | exact X13.out | exact X6.out | exact Nat.le_refl _ | exact X13.out.size | exact X6.out.size | with_reducible apply Below.drew | (with_reducible refine Below.alloc ?_ ?_ _) | (simp; done) | (simp; omega)))))
    (first
      | (refine step_app_one rfl (.tmp 10) (.tmp 14) 85 rfl 9 i0 (.string ByteArray.empty) 16 Tryd.underlying85 hi0 hz0 hz1 hz2 rfl (by decide) ⟨w.heap.size, 0, none⟩ ⟨bl, 0, none⟩ cl (.string nm) (.string nm2) ?_ ?_ ?_ ?_ rfl ?_
         · first | rfl | (simp [Act.eval]; done)
         · first | rfl | (simp [Act.eval]; done)
         · simp
         · exact KW.out _ (by (repeat (first | exact Below.refl _ _ | exact X13.out | exact X6.out | exact Nat.le_refl _ | exact X13.out.size | exact X6.out.size | with_reducible apply Below.drew | (with_reducible refine Below.alloc ?_ ?_ _) | (simp; done) | (simp; omega)))) _ _ h3
         intro g6 c6 w6 hx6 g60 g61
         have X6 := Lib.hid (show Ext w w6 from Below.trans (by (repeat (first | exact Below.refl _ _ | exact X13.out | exact X6.out | exact Nat.le_refl _ | exact X13.out.size | exact X6.out.size | with_reducible apply Below.drew | (with_reducible refine Below.alloc ?_ ?_ _) | (simp; done) | (simp; omega)))) (hx6.mono (by first | (simp; done) | (simp; omega))))
         have k6 := fun (p : Addr) (v : Value) (h : World.cell? _ p = some v) => (hx6.cell (p := p) (World.block_lt_of_cell? _ _ h)).trans h
         clear hx6)
      | (refine step_app_one rfl (.tmp 10) (.tmp 14) 85 rfl 9 i0 (.string ByteArray.empty) 16 Tryd.underlying85 hi0 hz0 hz1 hz2 rfl (by decide) ⟨w.heap.size + 1, 0, none⟩ ⟨bl, 0, none⟩ cl (.string nm) (.string nm2) ?_ ?_ ?_ ?_ rfl ?_
         · first | rfl | (simp [Act.eval]; done)
         · first | rfl | (simp [Act.eval]; done)
         · simp
         · exact KW.out _ (by (repeat (first | exact Below.refl _ _ | exact X13.out | exact X6.out | exact Nat.le_refl _ | exact X13.out.size | exact X6.out.size | with_reducible apply Below.drew | (with_reducible refine Below.alloc ?_ ?_ _) | (simp; done) | (simp; omega)))) _ _ h3
         intro g6 c6 w6 hx6 g60 g61
         have X6 := Lib.hid (show Ext w w6 from Below.trans (by (repeat (first | exact Below.refl _ _ | exact X13.out | exact X6.out | exact Nat.le_refl _ | exact X13.out.size | exact X6.out.size | with_reducible apply Below.drew | (with_reducible refine Below.alloc ?_ ?_ _) | (simp; done) | (simp; omega)))) (hx6.mono (by first | (simp; done) | (simp; omega))))
         have k6 := fun (p : Addr) (v : Value) (h : World.cell? _ p = some v) => (hx6.cell (p := p) (World.block_lt_of_cell? _ _ h)).trans h
         clear hx6)
      | (refine step_app_one rfl (.tmp 17) (.tmp 21) 24 rfl 3 i1 (.int .i64 0) 8 Tryd.underlying24 hj0 hy0 hy1 hy2 rfl (by decide) ⟨w6.heap.size, 0, none⟩ ⟨bp, 0, none⟩ cp (.int .i64 n) (.int .i64 n2) ?_ ?_ ?_ ?_ rfl ?_
         · first | rfl | (simp [Act.eval]; done)
         · first | rfl | (simp [Act.eval]; done)
         · (first | (simp; done) | exact k6 _ _ (by simp))
         · exact KW.out _ (by (repeat (first | exact Below.refl _ _ | exact X13.out | exact X6.out | exact Nat.le_refl _ | exact X13.out.size | exact X6.out.size | with_reducible apply Below.drew | (with_reducible refine Below.alloc ?_ ?_ _) | (simp; done) | (simp; omega)))) _ _ h4
         intro g13 c13 w13 hx13 p130 p131
         have X13 := Lib.hid (show Ext w w13 from Below.trans (b := _) (by (repeat (first | exact Below.refl _ _ | exact X13.out | exact X6.out | exact Nat.le_refl _ | exact X13.out.size | exact X6.out.size | with_reducible apply Below.drew | (with_reducible refine Below.alloc ?_ ?_ _) | (simp; done) | (simp; omega)))) (hx13.mono (by first | exact X6.out.size | (simp; have := X6.out.size; omega))))
         have k13 := fun (p : Addr) (v : Value) (h : World.cell? _ p = some v) => (hx13.cell (p := p) (World.block_lt_of_cell? _ _ h)).trans h
         have q60 : w13.cell? ⟨g6, 0, none⟩ = some (.string nm) := k13 _ _ (by first | exact g60 | exact ((ext1 w6 _).cell (World.block_lt_of_cell? _ _ g60)).trans g60 | exact ((ext1 w6 _).drew.cell (World.block_lt_of_cell? _ _ g60)).trans g60)
         have q61 : w13.cell? ⟨g6, 1, none⟩ = some (.string nm2) := k13 _ _ (by first | exact g61 | exact ((ext1 w6 _).cell (World.block_lt_of_cell? _ _ g61)).trans g61 | exact ((ext1 w6 _).drew.cell (World.block_lt_of_cell? _ _ g61)).trans g61)
         clear hx13 k13)
      | (refine step_app_one rfl (.tmp 17) (.tmp 21) 24 rfl 3 i1 (.int .i64 0) 8 Tryd.underlying24 hj0 hy0 hy1 hy2 rfl (by decide) ⟨w.heap.size + 1, 0, none⟩ ⟨bp, 0, none⟩ cp (.int .i64 n) (.int .i64 n2) ?_ ?_ ?_ ?_ rfl ?_
         · first | rfl | (simp [Act.eval]; done)
         · first | rfl | (simp [Act.eval]; done)
         · (first | (simp; done) | exact k6 _ _ (by simp))
         · exact KW.out _ (by (repeat (first | exact Below.refl _ _ | exact X13.out | exact X6.out | exact Nat.le_refl _ | exact X13.out.size | exact X6.out.size | with_reducible apply Below.drew | (with_reducible refine Below.alloc ?_ ?_ _) | (simp; done) | (simp; omega)))) _ _ h4
         intro g13 c13 w13 hx13 p130 p131
         have X13 := Lib.hid (show Ext w w13 from Below.trans (b := _) (by (repeat (first | exact Below.refl _ _ | exact X13.out | exact X6.out | exact Nat.le_refl _ | exact X13.out.size | exact X6.out.size | with_reducible apply Below.drew | (with_reducible refine Below.alloc ?_ ?_ _) | (simp; done) | (simp; omega)))) (hx13.mono (by first | exact X6.out.size | (simp; have := X6.out.size; omega))))
         have k13 := fun (p : Addr) (v : Value) (h : World.cell? _ p = some v) => (hx13.cell (p := p) (World.block_lt_of_cell? _ _ h)).trans h
         have q60 : w13.cell? ⟨g6, 0, none⟩ = some (.string nm) := k13 _ _ (by first | exact g60 | exact ((ext1 w6 _).cell (World.block_lt_of_cell? _ _ g60)).trans g60 | exact ((ext1 w6 _).drew.cell (World.block_lt_of_cell? _ _ g60)).trans g60)
         have q61 : w13.cell? ⟨g6, 1, none⟩ = some (.string nm2) := k13 _ _ (by first | exact g61 | exact ((ext1 w6 _).cell (World.block_lt_of_cell? _ _ g61)).trans g61 | exact ((ext1 w6 _).drew.cell (World.block_lt_of_cell? _ _ g61)).trans g61)
         clear hx13 k13)
      | (refine step_app_one rfl (.tmp 17) (.tmp 21) 24 rfl 3 i1 (.int .i64 0) 8 Tryd.underlying24 hj0 hy0 hy1 hy2 rfl (by decide) ⟨w.heap.size, 0, none⟩ ⟨bp, 0, none⟩ cp (.int .i64 n) (.int .i64 n2) ?_ ?_ ?_ ?_ rfl ?_
         · first | rfl | (simp [Act.eval]; done)
         · first | rfl | (simp [Act.eval]; done)
         · (first | (simp; done) | exact k6 _ _ (by simp))
         · exact KW.out _ (by (repeat (first | exact Below.refl _ _ | exact X13.out | exact X6.out | exact Nat.le_refl _ | exact X13.out.size | exact X6.out.size | with_reducible apply Below.drew | (with_reducible refine Below.alloc ?_ ?_ _) | (simp; done) | (simp; omega)))) _ _ h4
         intro g13 c13 w13 hx13 p130 p131
         have X13 := Lib.hid (show Ext w w13 from Below.trans (b := _) (by (repeat (first | exact Below.refl _ _ | exact X13.out | exact X6.out | exact Nat.le_refl _ | exact X13.out.size | exact X6.out.size | with_reducible apply Below.drew | (with_reducible refine Below.alloc ?_ ?_ _) | (simp; done) | (simp; omega)))) (hx13.mono (by first | exact X6.out.size | (simp; have := X6.out.size; omega))))
         have k13 := fun (p : Addr) (v : Value) (h : World.cell? _ p = some v) => (hx13.cell (p := p) (World.block_lt_of_cell? _ _ h)).trans h
         have q60 : w13.cell? ⟨g6, 0, none⟩ = some (.string nm) := k13 _ _ (by first | exact g60 | exact ((ext1 w6 _).cell (World.block_lt_of_cell? _ _ g60)).trans g60 | exact ((ext1 w6 _).drew.cell (World.block_lt_of_cell? _ _ g60)).trans g60)
         have q61 : w13.cell? ⟨g6, 1, none⟩ = some (.string nm2) := k13 _ _ (by first | exact g61 | exact ((ext1 w6 _).cell (World.block_lt_of_cell? _ _ g61)).trans g61 | exact ((ext1 w6 _).drew.cell (World.block_lt_of_cell? _ _ g61)).trans g61)
         clear hx13 k13))
  all_goals
    go_wp2_with fail
    go_ret
    refine ⟨_, rfl, ⟨w13.heap.size, rfl, g6, g13, c6, c13, by simp, by simp, by simp, ?_, ?_⟩, X13.out.alloc X13.out.size _⟩
    · intro i hi
      have e : i = 0 ∨ i = 1 := by simp at hi; omega
      rcases e with rfl | rfl
      · exact ((ext1 w13 _).cell (p := ⟨g6, 0, none⟩) (World.block_lt_of_cell? _ _ q60)).trans q60
      · exact ((ext1 w13 _).cell (p := ⟨g6, 1, none⟩) (World.block_lt_of_cell? _ _ q61)).trans q61
    · intro i hi
      have e : i = 0 ∨ i = 1 := by simp at hi; omega
      rcases e with rfl | rfl
      · exact ((ext1 w13 _).cell (p := ⟨g13, 0, none⟩) (World.block_lt_of_cell? _ _ p130)).trans p130
      · exact ((ext1 w13 _).cell (p := ⟨g13, 1, none⟩) (World.block_lt_of_cell? _ _ p131)).trans p131
end Go.Proofs.YtoncebfhkoabaaaDoor
