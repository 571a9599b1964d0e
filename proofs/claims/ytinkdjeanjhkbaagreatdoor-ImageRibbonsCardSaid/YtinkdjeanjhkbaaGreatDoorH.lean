/-
  The walk of image.Lose.
-/
import Derived.Test.YtinkdjeanjhkbaaGreatDoorG
namespace Go.Proofs.YtinkdjeanjhkbaaGreatDoor
open Go.RowKit
attribute [local go_sem] size_mkB

theorem below_draw {w w' : World} (h : Below w.drew.heap.size w.drew w') : Hid (Below w.heap.size w w') := ((Below.refl _ _).drew).trans h

theorem lose_tail {z x : ByteArray} {k n : Nat} (hx : Hid (bl x = Lib.repeatL (bl ⟨#[126]⟩) ((n : Int)).toNat)) (h : n ≤ k) (hk : k ≤ z.size) (hz : z.size ≤ 6000000) :
    (z.extract 0 (k - n) ++ x).size ≤ 6000000 ∧ Hid (bl (z.extract 0 (k - n) ++ x) = (bl z).take (k - n) ++ List.replicate n 126) := by
  have e : bl (z.extract 0 (k - n) ++ x) = (bl z).take (k - n) ++ List.replicate n 126 := by
    rw [bl_append, bl_extract, hx.out, show bl (⟨#[126]⟩ : ByteArray) = [126] from rfl, repeatL_one, Int.toNat_natCast]
    simp
  refine ⟨?_, e⟩
  rw [size_bl, e]; simp; rw [← size_bl]; omega

theorem lose_eq {room b c : Int} {base s : List UInt8} {z y t : ByteArray} {k n : Nat} (hz : bl z = s) (hk : k = (b % (z.size + 1)).toNat) (hn : n = (c % (k + 1)).toNat)
    (hy : bl y = base) (ht : bl t = (bl z).take (k - n) ++ List.replicate n 126) (h : (y.size : Int) ≤ room) :
    mkB (loseL room base s b c) = y ++ t.extract 0 (min (↑t.size) (room - ↑y.size)).toNat := by
  refine bl_inj ?_
  rw [bl_mk, bl_append, bl_extract, hy, loseL, ← hz, ← size_bl, ← hk, ← hn, ← ht, ← size_bl, ← hy, ← size_bl]
  simp only [List.drop_zero, Nat.sub_zero]
  congr 2
  omega

set_option maxHeartbeats 1600000 in
set_option maxRecDepth 100000 in
theorem lose_any (r : Rib) (v : Value) (a b c : Int) (w : World) (hv : ActsIn w.heap.size w v r.acts) :
    Calls Tryz.prog 7 #[.agg #[.int .i64 r.room, .string r.fast, v], .int .i64 a, .int .i64 b, .int .i64 c] w (RibOut 260 (loseR r a b c) w) := by
  have HV := Lib.hid hv
  clear hv
  by_cases hval : r.valid
  · have h0 : checkR r.room r.fast r.acts = 0 := hval
    have hspec : loseR r a b c = some ⟨r.room, mkB (loseL r.room (if a % 2 = 1 then keptL (bl r.fast) r.acts else bl r.fast) (addedL r.acts) b c), []⟩ := by simp only [loseR]; rw [if_pos hval]
    have HSP := Lib.hid hspec
    clear hspec
    obtain ⟨v1, v2, v3, v4, v5, v6⟩ := (valid_iff _ _ _).1 hval
    have V5 := Lib.hid v5
    clear v4 v5 hval
    obtain ⟨Av, cv, rfl⟩ : ∃ Av cv, v = .slice Av r.acts.length cv := by obtain ⟨A, c, e, _⟩ := HV.out; exact ⟨A, c, e⟩
    go_enter Tryz.func7, Tryz.ntmps7
    go_wp2_with fail
    refine (check_any _ _ _ _ _ ((HV.out.below (((Below.refl _ _).alloc (Nat.le_refl _) _).alloc (by simp) _)).mono (by simp; omega))).mono ?_
    rintro e w1 ⟨rfl, hb1⟩
    obtain ⟨b0, b1, hb, hz1⟩ := two_new hb1
    have HB1 := Lib.hid hb
    clear hb1 hb
    have d0 : w1.cell? ⟨w.heap.size, 0, none⟩ = some (.int .i64 r.room) := Lib.cell_of_heap b0 0
    have d1 : w1.cell? ⟨w.heap.size, 1, none⟩ = some (.string r.fast) := Lib.cell_of_heap b0 1
    have d2 : w1.cell? ⟨w.heap.size, 2, none⟩ = some (.slice Av r.acts.length cv) := Lib.cell_of_heap b0 2
    have BX := Lib.hid b0
    have RX := Lib.hid b1
    clear b0 b1
    have hz0 : w.heap.size < w1.heap.size := by omega
    go_wp2_with fail
    refine (added_any _ _ _ _ _ ((HV.out.below HB1.out).mono (by omega)) (by omega)).mono ?_
    rintro e w2 ⟨z, rfl, hzz, HZ, hb2⟩
    have hz : z.size ≤ 6000000 := by rw [size_bl, HZ.out]; omega
    have s2 := hb2.size
    have BX2 := Lib.hid ((hb2.block _ hz0).trans BX.out)
    have RX2 := Lib.hid ((hb2.block _ hz1).trans RX.out)
    have HB2 := Lib.hid (HB1.out.trans (hb2.mono (by omega)))
    clear hb2 d0 d1 d2 BX RX HB1 h0 hzz
    have d0 : w2.cell? ⟨w.heap.size, 0, none⟩ = some (.int .i64 r.room) := Lib.cell_of_heap BX2.out 0
    have d1 : w2.cell? ⟨w.heap.size, 1, none⟩ = some (.string r.fast) := Lib.cell_of_heap BX2.out 1
    have d2 : w2.cell? ⟨w.heap.size, 2, none⟩ = some (.slice Av r.acts.length cv) := Lib.cell_of_heap BX2.out 2
    have hz0' : w.heap.size < w2.heap.size := by omega
    have hz1' : w.heap.size + 1 < w2.heap.size := by omega
    clear hz0 hz1 s2
    go_upto_if 21 with (go_at_call 28; refine (remainder_any _ _ _ (by omega) (by omega)).mono ?_; rintro e w3 ⟨rfl, rfl⟩)
    go_cut [] (fun wx => ∃ W : World, W = wx ∧ ∃ y : ByteArray, y.size ≤ r.fast.size ∧ Hid (bl y = if a % 2 = 1 then keptL (bl r.fast) r.acts else bl r.fast) ∧
        Hid (wx.heap[w.heap.size]? = some (Obj.cells #[Value.int IntKind.i64 r.room, Value.string y, Value.slice Av r.acts.length cv] 24 (0, 0))) ∧
        Hid (wx.heap[w.heap.size + 1]? = some (Obj.cells #[Value.int IntKind.i64 0, Value.string { data := #[] }, Value.slice none 0 0] 24 (0, 0))) ∧ Hid (Below w.heap.size w wx) ∧ w.heap.size + 1 < wx.heap.size)
    case first =>
      by_cases hA : a % 2 = 1
      · go_wp2_with fail
        refine (kept_any _ _ _ _ _ ((HV.out.below HB2.out).mono (by omega)) V5.out (by omega)).mono ?_
        rintro e w3 ⟨y, rfl, hy, HY, hb3⟩
        have s3 := hb3.size
        have BX3 := Lib.hid ((hb3.block _ hz0').trans BX2.out)
        have RX3 := Lib.hid ((hb3.block _ hz1').trans RX2.out)
        have HB3 := Lib.hid (HB2.out.trans (hb3.mono (by omega)))
        have e1 : w3.cell? ⟨w.heap.size, 1, none⟩ = some (.string r.fast) := Lib.cell_of_heap BX3.out 1
        have e3 := Lib.frozen_of_heap BX3.out
        clear hb3
        go_wp2_with fail
        go_meet
        refine ⟨_, rfl, y, hy, by rw [if_pos hA]; exact HY, heap_setCell_at BX3.out 1 _, ?_, HB3.out.setCell (by simp) _, by simp [World.setCell]; omega⟩
        simp only [Hid]; rw [Below.heap_setCell _ _ _ _ (by simp)]; exact RX3.out
      · have hAb : (a % 2 == 1) = false := by simp [hA]
        go_wp2_with fail
        go_meet
        exact ⟨_, rfl, r.fast, Nat.le_refl _, by rw [if_neg hA]; rfl, BX2, RX2, HB2, hz1'⟩
    case rest =>
      obtain ⟨wx, rfl, y, hy, HY, BX3, RX3, HB3, hz3⟩ := hcut
      clear d0 d1 d2 BX2 RX2 HB2 hz0' hz1'
      go_wp2_with fail
      refine (remainder_nat _ _ _ (by omega) (by omega)).mono ?_
      rintro e w4 ⟨kN, rfl, hkN, HKN, rfl⟩
      go_wp2_with fail
      refine (remainder_nat _ _ _ (by omega) (by omega)).mono ?_
      rintro e w4 ⟨nN, rfl, hnN, HNN, rfl⟩
      go_wp2_with fail
      have hsub0 : (0 : Int) ≤ (kN : Int) - nN := by omega
      have hsub1 : (kN : Int) - nN ≤ z.size := by omega
      have hsub2 : IntKind.i64.wrap ((kN : Int) - nN) = (kN : Int) - nN := IntWalk.i64_in _ (by omega)
      go_cut [10] (fun s10 wy => ∃ W : World, W = wy ∧ ∃ t : ByteArray, s10 = .string t ∧ t.size ≤ 6000000 ∧ Hid (bl t = (bl z).take (kN - nN) ++ List.replicate nN 126) ∧ Hid (Below wx.heap.size wx W))
      case first =>
        go_region_with
          (go_at_call 29
           refine (repeat_any _ _ (by omega) (by omega) ?_ _).mono ?_
           · rw [show (⟨#[126]⟩ : ByteArray).size = 1 from rfl]; omega
           rintro e w4 ⟨x, rfl, hx, HX, hb4⟩)
        all_goals
          go_wp2
          go_meet
          (have hl := lose_tail (z := z) (k := kN) (n := nN) (by assumption) (by omega) (by omega) hz); exact ⟨_, rfl, _, rfl, hl.1, hl.2, below_draw (by assumption)⟩
      case rest =>
        obtain ⟨W, rfl, t, rfl, ht, HT, HBW⟩ := hcut
        have sW := HBW.out.size
        have BX4 := Lib.hid ((HBW.out.block _ (by omega)).trans BX3.out)
        have RX4 := Lib.hid ((HBW.out.block _ (by omega)).trans RX3.out)
        have HB4 := Lib.hid (HB3.out.trans (HBW.out.mono (by omega)))
        have e0 : W.cell? ⟨w.heap.size, 0, none⟩ = some (.int .i64 r.room) := Lib.cell_of_heap BX4.out 0
        have e1 : W.cell? ⟨w.heap.size, 1, none⟩ = some (.string y) := Lib.cell_of_heap BX4.out 1
        have e2 : W.cell? ⟨w.heap.size, 2, none⟩ = some (.slice Av r.acts.length cv) := Lib.cell_of_heap BX4.out 2
        have e3 := Lib.frozen_of_heap BX4.out
        have g0 : W.cell? ⟨w.heap.size + 1, 0, none⟩ = some (.int .i64 0) := Lib.cell_of_heap RX4.out 0
        have g1 : W.cell? ⟨w.heap.size + 1, 1, none⟩ = some (.string ⟨#[]⟩) := Lib.cell_of_heap RX4.out 1
        have g2 : W.cell? ⟨w.heap.size + 1, 2, none⟩ = some (.slice none 0 0) := Lib.cell_of_heap RX4.out 2
        have g3 := Lib.frozen_of_heap RX4.out
        clear hsub0 hsub1 hsub2
        have hsub : IntKind.i64.wrap (r.room - y.size) = r.room - y.size := IntWalk.i64_in _ (by omega)
        go_wp2_with fail
        go_region
        go_wp2_with fail
        refine bodyPost_ret (v := .tuple #[.agg #[.int .i64 r.room, .string (y ++ t.extract 0 (min (↑t.size) (r.room - ↑y.size)).toNat), .slice none 0 0], .int .i64 0]) (by simp [results, Tryz.results7, go_sem, g0, g1, g2, e0, e1, e2]) rfl ?_
        refine ⟨none, 0, ?_, ?_⟩
        · rw [HSP.out, lose_eq HZ.out HKN.out HNN.out HY.out HT.out (by omega)]
          exact ⟨ActsIn.nil _ _, rfl⟩
        · refine Below.drew ?_
          exact Below.setCell (Below.setCell (Below.setCell (Below.setCell (Below.setCell HB4.out (by simp) _) (by simp) _) (by simp) _) (by simp) _) (by simp) _
  · have h0 : checkR r.room r.fast r.acts = 260 := by
      rcases check_01 r.room r.fast r.acts with e | e
      · exact absurd e hval
      · exact e
    have hspec : loseR r a b c = none := by simp only [loseR]; rw [if_neg hval]
    have HSP := Lib.hid hspec
    clear hspec hval
    go_enter Tryz.func7, Tryz.ntmps7
    go_wp2_with fail
    refine (check_any _ _ _ _ _ ((HV.out.below (((Below.refl _ _).alloc (Nat.le_refl _) _).alloc (by simp) _)).mono (by simp; omega))).mono ?_
    rintro e w1 ⟨rfl, hb1⟩
    obtain ⟨b0, b1, hb, hz1⟩ := two_new hb1
    have HB1 := Lib.hid hb
    have d0 : w1.cell? ⟨w.heap.size + 1, 0, none⟩ = some (.int .i64 0) := Lib.cell_of_heap b1 0
    have d1 : w1.cell? ⟨w.heap.size + 1, 1, none⟩ = some (.string ⟨#[]⟩) := Lib.cell_of_heap b1 1
    have d2 : w1.cell? ⟨w.heap.size + 1, 2, none⟩ = some (.slice none 0 0) := Lib.cell_of_heap b1 2
    have d3 := Lib.frozen_of_heap b1
    clear hb1 hb b0 b1
    go_wp2_with fail
    refine bodyPost_ret (v := .tuple #[.agg #[.int .i64 0, .string ⟨#[]⟩, .slice none 0 0], .int .i64 260]) (by simp [results, Tryz.results7, go_sem, d0, d1, d2]) rfl ?_
    refine ⟨none, 0, by rw [HSP.out], ?_⟩
    exact Below.setCell (Below.setCell (Below.setCell HB1.out (by simp) _) (by simp) _) (by simp) _
end Go.Proofs.YtinkdjeanjhkbaaGreatDoor
