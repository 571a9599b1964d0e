/-
  The walk of the laws' sane.
-/
import Derived.Test.YtinkdjeanjhkbaaGreatDoorY
import Derived.Test.YtinkdjeanjhkbaaGreatDoorPJ
namespace Go.Proofs.YtinkdjeanjhkbaaGreatDoor
open Go.RowKit
attribute [local go_sem] size_mkB

theorem get_empty : getR (rib 2000 [] []) = .inl 261 := by
  unfold getR
  rw [if_pos (rib_valid0 (by decide) (by decide)), if_pos]
  show (bl (mkB [])).length < 45
  rw [bl_mk]; decide

theorem ex_put : putBR (rib 2000 (bytesL 0 []) []) ⟨#[120]⟩ = (rib 2000 (bytesL 1 [120]) [], true) := by
  have h := (any_put ⟨#[120]⟩ 2000 (by decide) (by decide) (by decide)).1
  rw [formattedR_ok (by decide)] at h
  exact h
theorem ex_get : getR (rib 2000 (bytesL 1 [120]) []) = .inr (⟨#[120]⟩, 1) := (any_put ⟨#[120]⟩ 2000 (by decide) (by decide) (by decide)).2.2

set_option maxHeartbeats 6400000 in
set_option maxRecDepth 100000 in
theorem sane_any (w : World) (hG : G w) : Calls Tryz.prog 4 #[] w fun e w' => e = .returned (.bool true) ∧ Below w.heap.size w w' := by
  have h5 := hG.low
  go_enter Tryz.func4, Tryz.ntmps4
  go_wp2_with fail
  refine (Words1_any _ hG).mono ?_
  rintro e w1 ⟨A1, c1, rfl, hb1, hr1⟩
  have HB1 := Lib.hid hb1
  have HG1 := Lib.hid (hG.below hb1 h5)
  have hz1 := hb1.size
  have HR1 := Lib.hid hr1
  clear hb1 hr1
  go_wp2_with fail
  refine (Words2_any _).mono ?_
  rintro e w2 ⟨rfl, hb2⟩
  have HB2 := Lib.hid (HB1.out.trans (hb2.mono (by omega)))
  have HG2 := Lib.hid (HG1.out.below hb2 (by have := HG1.out.low; omega))
  have HR2 := Lib.hid (own_below HR1.out hb2)
  have hz2 : w.heap.size ≤ w2.heap.size := HB2.out.size
  clear hb2
  go_wp2_with fail
  have ha2 : ActsIn (w2.alloc (.cells #[.int .i64 2, .string ⟨#[]⟩, .int .i64 1, .int .i64 3, .int .i64 1, .string ⟨#[120, 121]⟩, .int .i64 0, .int .i64 0] 41)).heap.size
      (w2.alloc (.cells #[.int .i64 2, .string ⟨#[]⟩, .int .i64 1, .int .i64 3, .int .i64 1, .string ⟨#[120, 121]⟩, .int .i64 0, .int .i64 0] 41)) (.slice (some ⟨w2.heap.size, 0, none⟩) 2 2) [keepAct 1 3, addAct (mkB [120, 121])] :=
    OwnActs.reads (base := w2.heap.size) (World.ownsRow_lit w2 _ 2 (Nat.le_refl _) (by decide) rfl)
  have HA2 := Lib.hid ha2
  clear ha2
  refine (act_any exA (.slice none 0 0) _ [keepAct 1 3, addAct (mkB [120, 121])] _ (ActsIn.nil _ _) HA2.out).mono ?_
  rintro e w3 ⟨A3, c3, he, hb3⟩
  rw [ex_act] at he
  obtain ⟨ha3, rfl⟩ := he
  have HA3 := Lib.hid ha3
  have HB3 := Lib.hid (below_at HB2.out hz2 hb3)
  have HG3 := Lib.hid (hG.below HB3.out h5)
  have HR3 := Lib.hid (own_below (own_below HR2.out ((Below.refl _ _).alloc (Nat.le_refl _) _)) hb3)
  have hz3 : w.heap.size ≤ w3.heap.size := HB3.out.size
  clear ha3 hb3
  simp only [exB, rib]
  go_wp2_with fail
  obtain ⟨X3, hX3⟩ : ∃ X3, w3.alloc (.cells #[.int .i64 1000, .string (mkB [97, 98, 99, 100]), .slice A3 2 c3] 24) = X3 := ⟨_, rfl⟩
  have BX3 : Hid (X3.heap[w3.heap.size]? = some (.cells #[.int .i64 1000, .string (mkB [97, 98, 99, 100]), .slice A3 2 c3] 24 (0, 0))) := by rw [← hX3]; exact heap_alloc_new _ _
  have hXz : X3.heap.size = w3.heap.size + 1 := by rw [← hX3]; simp
  have hb3x : Below w3.heap.size w3 X3 := by rw [← hX3]; exact (Below.refl _ _).alloc (Nat.le_refl _) _
  have HBX3 := Lib.hid (HB3.out.trans (hb3x.mono hz3))
  have HAX3 := Lib.hid ((HA3.out.below hb3x).mono (B' := X3.heap.size) (by omega))
  have HRX3 := Lib.hid (own_below HR3.out hb3x)
  have hlit := World.ownsRow_lit (e := 41) (size := 4) X3 #[.int .i64 3, .string ⟨#[]⟩, .int .i64 0, .int .i64 0] 1 (Nat.le_refl X3.heap.size) (by decide) rfl
  have HL3 : Hid (ActsIn (X3.alloc (.cells #[.int .i64 3, .string ⟨#[]⟩, .int .i64 0, .int .i64 0] 41)).heap.size (X3.alloc (.cells #[.int .i64 3, .string ⟨#[]⟩, .int .i64 0, .int .i64 0] 41)) (.slice (some ⟨X3.heap.size, 0, none⟩) 1 1) [fastAct]) :=
    OwnActs.reads (base := X3.heap.size) hlit
  have HAX3' := Lib.hid ((HAX3.out.below ((Below.refl X3.heap.size X3).alloc (Nat.le_refl _) (.cells #[.int .i64 3, .string ⟨#[]⟩, .int .i64 0, .int .i64 0] 41))).mono (B' := (X3.alloc (.cells #[.int .i64 3, .string ⟨#[]⟩, .int .i64 0, .int .i64 0] 41)).heap.size) (by simp))
  rw [← hXz] 
  rw [hX3]
  clear hlit hb3x
  refine (act_any exB _ _ [fastAct] _ HAX3'.out HL3.out).mono ?_
  rintro e w4 ⟨A4, c4, he, hb4⟩
  rw [ex_fast] at he
  obtain ⟨ha4, rfl⟩ := he
  have HB4 := Lib.hid (below_at HBX3.out (by omega) hb4)
  have HG4 := Lib.hid (hG.below HB4.out h5)
  have HR4 := Lib.hid (own_below (own_below HRX3.out ((Below.refl _ _).alloc (Nat.le_refl _) _)) hb4)
  have BX4 := Lib.hid (blk_keep BX3.out hb4 (by omega))
  have HAX4 := Lib.hid ((HAX3'.out.below hb4).mono (B' := w4.heap.size) hb4.size)
  have hz4 : w3.heap.size + 1 ≤ w4.heap.size := by have := hb4.size; simp at this; omega
  clear ha4 hb4
  simp only [rib]
  obtain ⟨g1, hg1⟩ : ∃ g1 : Nat, A1 = some ⟨g1, 0, none⟩ ∧ w4.cell? ⟨g1, 0, none⟩ = some (.string ⟨#[97, 32, 98]⟩) ∧ 2 ≤ c1 ∧ g1 < w4.heap.size := by
    have hh := HR4.out
    obtain ⟨_, h2⟩ := hh
    rcases h2 with ⟨_, h0⟩ | ⟨g, cap, cur, hv, hg, hb, hc, _⟩
    · omega
    · injection hv with e1 e2 e3
      subst e3
      have hcell := HR4.out.cells (g := g) (by rw [e1]; rfl) 0 (.string ⟨#[97, 32, 98]⟩) rfl
      exact ⟨g, e1, by rw [addr_add] at hcell; exact hcell, hc, (Array.getElem?_eq_some_iff.1 hb).1⟩
  obtain ⟨rfl, k0, hc1, hg1z⟩ := hg1
  have hc1' : (2 : Int) ≤ c1 := by omega
  have hbx : mkB [98, 99, 120, 121] = (⟨#[98, 99, 120, 121]⟩ : ByteArray) := rfl
  rw [hbx]
  have e0 : w4.cell? ⟨w3.heap.size, 0, none⟩ = some (.int .i64 1000) := Lib.cell_of_heap BX4.out 0
  have e1 : w4.cell? ⟨w3.heap.size, 1, none⟩ = some (.string (mkB [97, 98, 99, 100])) := Lib.cell_of_heap BX4.out 1
  have e2 : w4.cell? ⟨w3.heap.size, 2, none⟩ = some (.slice A3 2 c3) := Lib.cell_of_heap BX4.out 2
  have hz4' : w3.heap.size < w4.heap.size := by omega
  go_wp2_with fail
  obtain ⟨X4, hX4⟩ : ∃ X4, w4.alloc (.cells #[.int .i64 1000, .string ⟨#[98, 99, 120, 121]⟩, .slice A4 0 c4] 24) = X4 := ⟨_, rfl⟩
  have hb4x : Below w4.heap.size w4 X4 := by rw [← hX4]; exact (Below.refl _ _).alloc (Nat.le_refl _) _
  have HB_X4 := Lib.hid (HB4.out.trans (hb4x.mono (by omega)))
  have BX_X4 := Lib.hid ((hb4x.block _ hz4').trans BX4.out)
  have HAX4' := Lib.hid ((HAX4.out.below hb4x).mono (B' := X4.heap.size) hb4x.size)
  clear hb4x e0 e1 e2 k0 HAX4 HR4
  have HAX4 := HAX4'
  clear HAX4'
  rw [hX4]
  refine (lost_any exB _ 0 1 0 _ HAX4.out).mono ?_
  rintro e w5 ⟨rfl, hb⟩
  rw [ex_lost1]
  have HB_w5 := Lib.hid (HB_X4.out.trans (hb.mono (by have := HB_X4.out.size; omega)))
  have BX_w5 := Lib.hid ((hb.block _ (Array.getElem?_eq_some_iff.1 BX_X4.out).1).trans BX_X4.out)
  have HAw5 := Lib.hid ((HAX4.out.below hb).mono (B' := w5.heap.size) hb.size)
  have e0 : w5.cell? ⟨w3.heap.size, 0, none⟩ = some (.int .i64 1000) := Lib.cell_of_heap BX_w5.out 0
  have e1 : w5.cell? ⟨w3.heap.size, 1, none⟩ = some (.string (mkB [97, 98, 99, 100])) := Lib.cell_of_heap BX_w5.out 1
  have e2 : w5.cell? ⟨w3.heap.size, 2, none⟩ = some (.slice A3 2 c3) := Lib.cell_of_heap BX_w5.out 2
  clear hb
  rw [show mkB [97, 98, 99, 100, 120] = (⟨#[97, 98, 99, 100, 120]⟩ : ByteArray) from rfl]
  go_wp2_with fail
  refine (lost_any exB _ 1 5 1 _ HAw5.out).mono ?_
  rintro e w6 ⟨rfl, hb⟩
  rw [ex_lost2]
  have HB_w6 := Lib.hid (HB_w5.out.trans (hb.mono (by have := HB_w5.out.size; omega)))
  have BX_w6 := Lib.hid ((hb.block _ (Array.getElem?_eq_some_iff.1 BX_w5.out).1).trans BX_w5.out)
  have HAw6 := Lib.hid ((HAw5.out.below hb).mono (B' := w6.heap.size) hb.size)
  have e0 : w6.cell? ⟨w3.heap.size, 0, none⟩ = some (.int .i64 1000) := Lib.cell_of_heap BX_w6.out 0
  have e1 : w6.cell? ⟨w3.heap.size, 1, none⟩ = some (.string (mkB [97, 98, 99, 100])) := Lib.cell_of_heap BX_w6.out 1
  have e2 : w6.cell? ⟨w3.heap.size, 2, none⟩ = some (.slice A3 2 c3) := Lib.cell_of_heap BX_w6.out 2
  clear hb
  rw [show mkB [98, 99, 120, 126] = (⟨#[98, 99, 120, 126]⟩ : ByteArray) from rfl]
  go_wp2_with fail
  refine (lost_any exB _ 1 1 1 _ HAw6.out).mono ?_
  rintro e w7 ⟨rfl, hb⟩
  rw [ex_lost3]
  have HB_w7 := Lib.hid (HB_w6.out.trans (hb.mono (by have := HB_w6.out.size; omega)))
  have BX_w7 := Lib.hid ((hb.block _ (Array.getElem?_eq_some_iff.1 BX_w6.out).1).trans BX_w6.out)
  have HAw7 := Lib.hid ((HAw6.out.below hb).mono (B' := w7.heap.size) hb.size)
  have e0 : w7.cell? ⟨w3.heap.size, 0, none⟩ = some (.int .i64 1000) := Lib.cell_of_heap BX_w7.out 0
  have e1 : w7.cell? ⟨w3.heap.size, 1, none⟩ = some (.string (mkB [97, 98, 99, 100])) := Lib.cell_of_heap BX_w7.out 1
  have e2 : w7.cell? ⟨w3.heap.size, 2, none⟩ = some (.slice A3 2 c3) := Lib.cell_of_heap BX_w7.out 2
  clear hb
  rw [show mkB [98, 99, 126] = (⟨#[98, 99, 126]⟩ : ByteArray) from rfl]
  go_wp2_with fail
  clear e0 e1 e2
  refine (new_any 2000 _).mono ?_
  rintro e w8 ⟨A8, c8, he, hb⟩
  rw [newR_ok (by decide)] at he
  obtain ⟨ha, rfl⟩ := he
  have HA_w8 := Lib.hid ha
  have HB_w8 := Lib.hid (HB_w7.out.trans (hb.mono HB_w7.out.size))
  clear ha hb
  simp only [rib]
  go_wp2_with fail
  obtain ⟨X8, hX⟩ : ∃ X8, w8.alloc (.cells #[.int .i64 2000, .string (mkB []), .slice A8 0 c8] 24) = X8 := ⟨_, rfl⟩
  have hbx : Below w8.heap.size w8 X8 := by rw [← hX]; exact (Below.refl _ _).alloc (Nat.le_refl _) _
  have BX_X8 : Hid (X8.heap[w8.heap.size]? = some (.cells #[.int .i64 2000, .string (mkB []), .slice A8 0 c8] 24 (0, 0))) := by rw [← hX]; exact heap_alloc_new _ _
  have HB_X8 := Lib.hid (HB_w8.out.trans (hbx.mono HB_w8.out.size))
  have HA_X8 := Lib.hid ((HA_w8.out.below hbx).mono (B' := X8.heap.size) hbx.size)
  have HG_X8 := Lib.hid (hG.below HB_X8.out h5)
  clear hbx
  rw [hX]
  refine (get_any (rib 2000 [] []) _ _ HA_X8.out HG_X8.out).mono ?_
  rintro e w9 ⟨hb, he⟩
  rw [get_empty] at he
  subst he
  have HB_w9 := Lib.hid (HB_X8.out.trans (hb.mono HB_X8.out.size))
  have HG_w9 := Lib.hid (hG.below HB_w9.out h5)
  clear hb hX
  go_wp2_with fail
  refine (formatted_any 2000 _ HG_w9.out).mono ?_
  rintro e wa ⟨Aa, ca, ⟨ha, rfl⟩, hb⟩
  rw [formattedR_ok (by decide)] at ha ⊢
  have HA_wa := Lib.hid ha
  have HB_wa := Lib.hid (HB_w9.out.trans (hb.mono HB_w9.out.size))
  clear ha hb
  simp only [rib]
  go_wp2_with fail
  obtain ⟨Xa, hX⟩ : ∃ Xa, wa.alloc (.cells #[.int .i64 2000, .string (mkB (bytesL 0 [])), .slice Aa 0 ca] 24) = Xa := ⟨_, rfl⟩
  have hbx : Below wa.heap.size wa Xa := by rw [← hX]; exact (Below.refl _ _).alloc (Nat.le_refl _) _
  have BX_Xa : Hid (Xa.heap[wa.heap.size]? = some (.cells #[.int .i64 2000, .string (mkB (bytesL 0 [])), .slice Aa 0 ca] 24 (0, 0))) := by rw [← hX]; exact heap_alloc_new _ _
  have HB_Xa := Lib.hid (HB_wa.out.trans (hbx.mono HB_wa.out.size))
  have HA_Xa := Lib.hid ((HA_wa.out.below hbx).mono (B' := Xa.heap.size) hbx.size)
  have HG_Xa := Lib.hid (hG.below HB_Xa.out h5)
  clear hbx
  rw [hX]
  clear hX
  refine (get_any (rib 2000 (bytesL 0 []) []) _ _ HA_Xa.out HG_Xa.out).mono ?_
  rintro e wb ⟨hb, he⟩
  rw [getR_ok (by decide) (by rw [len0]; decide) holds0] at he
  subst he
  have HB_wb := Lib.hid (HB_Xa.out.trans (hb.mono HB_Xa.out.size))
  have HG_wb := Lib.hid (hG.below HB_wb.out h5)
  have HA_wb := Lib.hid ((HA_Xa.out.below hb).mono (B' := wb.heap.size) hb.size)
  have BX_wb := Lib.hid ((hb.block _ (Array.getElem?_eq_some_iff.1 BX_Xa.out).1).trans BX_Xa.out)
  have e0 : wb.cell? ⟨wa.heap.size, 0, none⟩ = some (.int .i64 2000) := Lib.cell_of_heap BX_wb.out 0
  have e1 : wb.cell? ⟨wa.heap.size, 1, none⟩ = some (.string (mkB (bytesL 0 []))) := Lib.cell_of_heap BX_wb.out 1
  have e2 : wb.cell? ⟨wa.heap.size, 2, none⟩ = some (.slice Aa 0 ca) := Lib.cell_of_heap BX_wb.out 2
  clear hb
  go_wp2_with fail
  refine (putB_any (rib 2000 (bytesL 0 []) []) _ ⟨#[120]⟩ _ HA_wb.out HG_wb.out).mono ?_
  rintro e wc ⟨Ac, cc, ⟨ha, rfl⟩, hb⟩
  rw [ex_put] at ha ⊢
  have HA_wc := Lib.hid ha
  have HB_wc := Lib.hid (HB_wb.out.trans (hb.mono HB_wb.out.size))
  clear ha hb e0 e1 e2
  simp only [rib]
  go_wp2_with fail
  obtain ⟨Xc, hX⟩ : ∃ Xc, wc.alloc (.cells #[.int .i64 2000, .string (mkB (bytesL 1 [120])), .slice Ac 0 cc] 24) = Xc := ⟨_, rfl⟩
  have hbx : Below wc.heap.size wc Xc := by rw [← hX]; exact (Below.refl _ _).alloc (Nat.le_refl _) _
  have HB_Xc := Lib.hid (HB_wc.out.trans (hbx.mono HB_wc.out.size))
  have HA_Xc := Lib.hid ((HA_wc.out.below hbx).mono (B' := Xc.heap.size) hbx.size)
  have HG_Xc := Lib.hid (hG.below HB_Xc.out h5)
  clear hbx
  rw [hX]
  clear hX
  refine (get_any (rib 2000 (bytesL 1 [120]) []) _ _ HA_Xc.out HG_Xc.out).mono ?_
  rintro e wd ⟨hb, he⟩
  rw [ex_get] at he
  subst he
  have HB_wd := Lib.hid (HB_Xc.out.trans (hb.mono HB_Xc.out.size))
  clear hb
  have hm0 : mkB [] = (⟨#[]⟩ : ByteArray) := rfl
  rw [hm0]
  go_wp2_with fail
  refine bodyPost_ret (v := .bool true) (by simp [results, Tryz.results4, go_sem]) rfl ?_
  exact ⟨rfl, HB_wd.out⟩
end Go.Proofs.YtinkdjeanjhkbaaGreatDoor
