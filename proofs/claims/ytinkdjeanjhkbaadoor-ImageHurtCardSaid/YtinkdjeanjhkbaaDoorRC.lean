/-
  The walk of ImageHurt.
-/
import Derived.Test.YtinkdjeanjhkbaaDoorZ
import Derived.Test.YtinkdjeanjhkbaaDoorPK
namespace Go.Proofs.YtinkdjeanjhkbaaDoor
open Go.RowKit
attribute [local go_sem] size_mkB

set_option maxHeartbeats 12800000 in
set_option maxRecDepth 100000 in
theorem hurts_any (a b : ByteArray) (x y : Int) (w : World) (hG : G w) (hx0 : 0 ≤ x) (hx1 : x < 65536) (hy0 : 0 ≤ y) (hy1 : y < 65536) :
    Calls Tryd.prog 6 #[.string a, .string b, .agg #[.int .u16 x, .int .u16 y]] w fun e w' => e = .returned (.bool true) ∧ Below w.heap.size w w' := by
  have h5 := hG.low
  have hr : (1000 : Int) ≤ 6000000 ∧ (6000000 : Int) ≤ 6000000 := by decide
  have HR := Lib.hid hr
  clear hr
  obtain ⟨X0, hX0⟩ : ∃ X0, w.alloc (.cells #[.int .u16 x, .int .u16 y] 51) = X0 := ⟨_, rfl⟩
  have hbx : Below w.heap.size w X0 := by rw [← hX0]; exact (Below.refl _ _).alloc (Nat.le_refl _) _
  have HB_X0 := Lib.hid hbx
  have HG_X0 := Lib.hid (hG.below HB_X0.out h5)
  have BX_arr_X0 : Hid (X0.heap[w.heap.size]? = some (.cells #[.int .u16 x, .int .u16 y] 51 (0, 0))) := by rw [← hX0]; exact heap_alloc_new _ _
  have HX0 := Lib.hid hX0
  clear hbx hX0
  by_cases hza : a.size ≤ 2000000
  · by_cases hzb : b.size ≤ 2000000
    · have HP := Lib.hid (hurt_puts a b hza hzb)
      have hlen : (bytesL 2 (bl b)).length = b.size + 45 := by rw [bytesL_len 2 (bl b) (by decide) (by decide) (by rw [← size_bl]; omega), ← size_bl]
      go_enter Tryd.func6, Tryd.ntmps6
      go_wp2_with fail
      rw [HX0.out]
      refine (sane_any _ HG_X0.out).mono ?_
      rintro e w1 ⟨rfl, hb⟩
      have HB_w1 := Lib.hid (HB_X0.out.trans (hb.mono HB_X0.out.size))
      have BX_arr_w1 := Lib.hid ((hb.block _ (Array.getElem?_eq_some_iff.1 BX_arr_X0.out).1).trans BX_arr_X0.out)
      have HG_w1 := Lib.hid (hG.below HB_w1.out h5)
      clear hb
      go_wp2_with fail
      refine (formatted_any 6000000 _ HG_w1.out).mono ?_
      rintro e wa ⟨Aa, ca, ⟨ha, rfl⟩, hb⟩
      rw [formattedR_ok HR.out] at ha ⊢
      have HB_wa := Lib.hid (HB_w1.out.trans (hb.mono HB_w1.out.size))
      have BX_arr_wa := Lib.hid ((hb.block _ (Array.getElem?_eq_some_iff.1 BX_arr_w1.out).1).trans BX_arr_w1.out)
      have HG_wa := Lib.hid (hG.below HB_wa.out h5)
      clear hb
      have HA_r_wa := Lib.hid ha
      clear ha
      simp only [rib]
      go_wp2_with fail
      obtain ⟨Xa, hX⟩ : ∃ Xa, wa.alloc (.cells #[.int .i64 6000000, .string (mkB (bytesL 0 [])), .slice Aa 0 ca] 27) = Xa := ⟨_, rfl⟩
      have hbx : Below wa.heap.size wa Xa := by rw [← hX]; exact (Below.refl _ _).alloc (Nat.le_refl _) _
      have HB_Xa := Lib.hid (HB_wa.out.trans (hbx.mono HB_wa.out.size))
      have BX_arr_Xa := Lib.hid ((hbx.block _ (Array.getElem?_eq_some_iff.1 BX_arr_wa.out).1).trans BX_arr_wa.out)
      have HA_r_Xa := Lib.hid ((HA_r_wa.out.below hbx).mono (B' := Xa.heap.size) hbx.size)
      have HG_Xa := Lib.hid (hG.below HB_Xa.out h5)
      have BX_r_Xa : Hid (Xa.heap[wa.heap.size]? = some (.cells #[.int .i64 6000000, .string (mkB (bytesL 0 [])), .slice Aa 0 ca] 27 (0, 0))) := by rw [← hX]; exact heap_alloc_new _ _
      clear hbx
      rw [hX]
      clear hX
      refine (putB_any (rib 6000000 (bytesL 0 []) []) _ a _ HA_r_Xa.out HG_Xa.out).mono ?_
      rintro e wc ⟨Ac, cc, ⟨ha, rfl⟩, hb⟩
      rw [HP.out.1] at ha ⊢
      have HB_wc := Lib.hid (HB_Xa.out.trans (hb.mono HB_Xa.out.size))
      have BX_arr_wc := Lib.hid ((hb.block _ (Array.getElem?_eq_some_iff.1 BX_arr_Xa.out).1).trans BX_arr_Xa.out)
      have BX_r_wc := Lib.hid ((hb.block _ (Array.getElem?_eq_some_iff.1 BX_r_Xa.out).1).trans BX_r_Xa.out)
      have HA_r_wc := Lib.hid ((HA_r_Xa.out.below hb).mono (B' := wc.heap.size) hb.size)
      have HG_wc := Lib.hid (hG.below HB_wc.out h5)
      clear hb
      have HA_x_wc := Lib.hid ha
      clear ha
      simp only [rib]
      go_wp2_with fail
      obtain ⟨Xc, hX⟩ : ∃ Xc, wc.alloc (.cells #[.int .i64 6000000, .string (mkB (bytesL 1 (bl a))), .slice Ac 0 cc] 27) = Xc := ⟨_, rfl⟩
      have hbx : Below wc.heap.size wc Xc := by rw [← hX]; exact (Below.refl _ _).alloc (Nat.le_refl _) _
      have HB_Xc := Lib.hid (HB_wc.out.trans (hbx.mono HB_wc.out.size))
      have BX_arr_Xc := Lib.hid ((hbx.block _ (Array.getElem?_eq_some_iff.1 BX_arr_wc.out).1).trans BX_arr_wc.out)
      have BX_r_Xc := Lib.hid ((hbx.block _ (Array.getElem?_eq_some_iff.1 BX_r_wc.out).1).trans BX_r_wc.out)
      have HA_r_Xc := Lib.hid ((HA_r_wc.out.below hbx).mono (B' := Xc.heap.size) hbx.size)
      have HA_x_Xc := Lib.hid ((HA_x_wc.out.below hbx).mono (B' := Xc.heap.size) hbx.size)
      have HG_Xc := Lib.hid (hG.below HB_Xc.out h5)
      have BX_x_Xc : Hid (Xc.heap[wc.heap.size]? = some (.cells #[.int .i64 6000000, .string (mkB (bytesL 1 (bl a))), .slice Ac 0 cc] 27 (0, 0))) := by rw [← hX]; exact heap_alloc_new _ _
      clear hbx
      rw [hX]
      clear hX
      refine (putB_any (rib 6000000 (bytesL 1 (bl a)) []) _ b _ HA_x_Xc.out HG_Xc.out).mono ?_
      rintro e we ⟨Ae, ce, ⟨ha, rfl⟩, hb⟩
      rw [HP.out.2] at ha ⊢
      have HB_we := Lib.hid (HB_Xc.out.trans (hb.mono HB_Xc.out.size))
      have BX_arr_we := Lib.hid ((hb.block _ (Array.getElem?_eq_some_iff.1 BX_arr_Xc.out).1).trans BX_arr_Xc.out)
      have BX_r_we := Lib.hid ((hb.block _ (Array.getElem?_eq_some_iff.1 BX_r_Xc.out).1).trans BX_r_Xc.out)
      have BX_x_we := Lib.hid ((hb.block _ (Array.getElem?_eq_some_iff.1 BX_x_Xc.out).1).trans BX_x_Xc.out)
      have HA_r_we := Lib.hid ((HA_r_Xc.out.below hb).mono (B' := we.heap.size) hb.size)
      have HA_x_we := Lib.hid ((HA_x_Xc.out.below hb).mono (B' := we.heap.size) hb.size)
      have HG_we := Lib.hid (hG.below HB_we.out h5)
      clear hb
      have HA_y_we := Lib.hid ha
      clear ha
      simp only [rib]
      have e_arr0 : we.cell? ⟨w.heap.size, 0, none⟩ = some (.int .u16 x) := Lib.cell_of_heap BX_arr_we.out 0
      have e_arr1 : we.cell? ⟨w.heap.size, 1, none⟩ = some (.int .u16 y) := Lib.cell_of_heap BX_arr_we.out 1
      have z_arr : w.heap.size < we.heap.size := (Array.getElem?_eq_some_iff.1 BX_arr_we.out).1
      go_wp2_with fail
      obtain ⟨Xe, hX⟩ : ∃ Xe, we.alloc (.cells #[.int .i64 6000000, .string (mkB (bytesL 2 (bl b))), .slice Ae 0 ce] 27) = Xe := ⟨_, rfl⟩
      have hbx : Below we.heap.size we Xe := by rw [← hX]; exact (Below.refl _ _).alloc (Nat.le_refl _) _
      clear e_arr0 e_arr1 z_arr
      have HB_Xe := Lib.hid (HB_we.out.trans (hbx.mono HB_we.out.size))
      have BX_arr_Xe := Lib.hid ((hbx.block _ (Array.getElem?_eq_some_iff.1 BX_arr_we.out).1).trans BX_arr_we.out)
      have BX_r_Xe := Lib.hid ((hbx.block _ (Array.getElem?_eq_some_iff.1 BX_r_we.out).1).trans BX_r_we.out)
      have BX_x_Xe := Lib.hid ((hbx.block _ (Array.getElem?_eq_some_iff.1 BX_x_we.out).1).trans BX_x_we.out)
      have HA_r_Xe := Lib.hid ((HA_r_we.out.below hbx).mono (B' := Xe.heap.size) hbx.size)
      have HA_x_Xe := Lib.hid ((HA_x_we.out.below hbx).mono (B' := Xe.heap.size) hbx.size)
      have HA_y_Xe := Lib.hid ((HA_y_we.out.below hbx).mono (B' := Xe.heap.size) hbx.size)
      have HG_Xe := Lib.hid (hG.below HB_Xe.out h5)
      have BX_y_Xe : Hid (Xe.heap[we.heap.size]? = some (.cells #[.int .i64 6000000, .string (mkB (bytesL 2 (bl b))), .slice Ae 0 ce] 27 (0, 0))) := by rw [← hX]; exact heap_alloc_new _ _
      clear hbx
      rw [hX]
      clear hX
      obtain ⟨at_, hat⟩ : ∃ at_ : Int, x % max 1 ((b.size : Int) + 45) = at_ := ⟨_, rfl⟩
      have hat0 : 0 ≤ at_ ∧ at_ < (b.size : Int) + 45 := by
        have h1 := Int.emod_nonneg x (b := max 1 ((b.size : Int) + 45)) (by omega)
        have h2 := Int.emod_lt_of_pos x (b := max 1 ((b.size : Int) + 45)) (by omega)
        omega
      obtain ⟨u, hu, hu0⟩ := byte_of y hy0
      rw [hat, ← hu]
      clear hat hu
      obtain ⟨hat1, hat2⟩ := hat0
      have hz := hurt_plain b hzb at_ u hu0 hat1 (by rw [hlen]; omega)
      have HZ := Lib.hid hz
      clear hz
      refine (hurt_any (rib 6000000 (bytesL 2 (bl b)) []) _ at_ u _ HA_y_Xe.out (by omega)).mono ?_
      rintro e wz ⟨Az, cz, he, hb⟩
      rw [HZ.out.1] at he
      obtain ⟨ha, rfl⟩ := he
      have HB_wz := Lib.hid (HB_Xe.out.trans (hb.mono HB_Xe.out.size))
      have BX_arr_wz := Lib.hid ((hb.block _ (Array.getElem?_eq_some_iff.1 BX_arr_Xe.out).1).trans BX_arr_Xe.out)
      have BX_r_wz := Lib.hid ((hb.block _ (Array.getElem?_eq_some_iff.1 BX_r_Xe.out).1).trans BX_r_Xe.out)
      have BX_x_wz := Lib.hid ((hb.block _ (Array.getElem?_eq_some_iff.1 BX_x_Xe.out).1).trans BX_x_Xe.out)
      have BX_y_wz := Lib.hid ((hb.block _ (Array.getElem?_eq_some_iff.1 BX_y_Xe.out).1).trans BX_y_Xe.out)
      have HA_r_wz := Lib.hid ((HA_r_Xe.out.below hb).mono (B' := wz.heap.size) hb.size)
      have HA_x_wz := Lib.hid ((HA_x_Xe.out.below hb).mono (B' := wz.heap.size) hb.size)
      have HA_y_wz := Lib.hid ((HA_y_Xe.out.below hb).mono (B' := wz.heap.size) hb.size)
      have HG_wz := Lib.hid (hG.below HB_wz.out h5)
      clear hb
      have HA_z_wz := Lib.hid ha
      clear ha
      simp only [rib]
      go_wp2_with fail
      obtain ⟨Xz, hX⟩ : ∃ Xz, wz.alloc (.cells #[.int .i64 6000000, .string (mkB (hurtL (bytesL 2 (bl b)) at_.toNat u)), .slice Az 0 cz] 27) = Xz := ⟨_, rfl⟩
      have hbx : Below wz.heap.size wz Xz := by rw [← hX]; exact (Below.refl _ _).alloc (Nat.le_refl _) _
      have HB_Xz := Lib.hid (HB_wz.out.trans (hbx.mono HB_wz.out.size))
      have BX_arr_Xz := Lib.hid ((hbx.block _ (Array.getElem?_eq_some_iff.1 BX_arr_wz.out).1).trans BX_arr_wz.out)
      have BX_r_Xz := Lib.hid ((hbx.block _ (Array.getElem?_eq_some_iff.1 BX_r_wz.out).1).trans BX_r_wz.out)
      have BX_x_Xz := Lib.hid ((hbx.block _ (Array.getElem?_eq_some_iff.1 BX_x_wz.out).1).trans BX_x_wz.out)
      have BX_y_Xz := Lib.hid ((hbx.block _ (Array.getElem?_eq_some_iff.1 BX_y_wz.out).1).trans BX_y_wz.out)
      have HA_r_Xz := Lib.hid ((HA_r_wz.out.below hbx).mono (B' := Xz.heap.size) hbx.size)
      have HA_x_Xz := Lib.hid ((HA_x_wz.out.below hbx).mono (B' := Xz.heap.size) hbx.size)
      have HA_y_Xz := Lib.hid ((HA_y_wz.out.below hbx).mono (B' := Xz.heap.size) hbx.size)
      have HA_z_Xz := Lib.hid ((HA_z_wz.out.below hbx).mono (B' := Xz.heap.size) hbx.size)
      have HG_Xz := Lib.hid (hG.below HB_Xz.out h5)
      have BX_z_Xz : Hid (Xz.heap[wz.heap.size]? = some (.cells #[.int .i64 6000000, .string (mkB (hurtL (bytesL 2 (bl b)) at_.toNat u)), .slice Az 0 cz] 27 (0, 0))) := by rw [← hX]; exact heap_alloc_new _ _
      clear hbx
      rw [hX]
      clear hX
      refine (get_any (rib 6000000 (hurtL (bytesL 2 (bl b)) at_.toNat u) []) _ _ HA_z_Xz.out HG_Xz.out).mono ?_
      rintro e wf ⟨hb, he⟩
      rw [HZ.out.2.1] at he
      simp only at he
      subst he
      have HB_wf := Lib.hid (HB_Xz.out.trans (hb.mono HB_Xz.out.size))
      have BX_arr_wf := Lib.hid ((hb.block _ (Array.getElem?_eq_some_iff.1 BX_arr_Xz.out).1).trans BX_arr_Xz.out)
      have BX_r_wf := Lib.hid ((hb.block _ (Array.getElem?_eq_some_iff.1 BX_r_Xz.out).1).trans BX_r_Xz.out)
      have BX_x_wf := Lib.hid ((hb.block _ (Array.getElem?_eq_some_iff.1 BX_x_Xz.out).1).trans BX_x_Xz.out)
      have BX_y_wf := Lib.hid ((hb.block _ (Array.getElem?_eq_some_iff.1 BX_y_Xz.out).1).trans BX_y_Xz.out)
      have BX_z_wf := Lib.hid ((hb.block _ (Array.getElem?_eq_some_iff.1 BX_z_Xz.out).1).trans BX_z_Xz.out)
      have HA_r_wf := Lib.hid ((HA_r_Xz.out.below hb).mono (B' := wf.heap.size) hb.size)
      have HA_x_wf := Lib.hid ((HA_x_Xz.out.below hb).mono (B' := wf.heap.size) hb.size)
      have HA_y_wf := Lib.hid ((HA_y_Xz.out.below hb).mono (B' := wf.heap.size) hb.size)
      have HA_z_wf := Lib.hid ((HA_z_Xz.out.below hb).mono (B' := wf.heap.size) hb.size)
      have HG_wf := Lib.hid (hG.below HB_wf.out h5)
      clear hb
      have e_z0 : wf.cell? ⟨wz.heap.size, 0, none⟩ = some (.int .i64 6000000) := Lib.cell_of_heap BX_z_wf.out 0
      have e_z1 : wf.cell? ⟨wz.heap.size, 1, none⟩ = some (.string (mkB (hurtL (bytesL 2 (bl b)) at_.toNat u))) := Lib.cell_of_heap BX_z_wf.out 1
      have e_z2 : wf.cell? ⟨wz.heap.size, 2, none⟩ = some (.slice Az 0 cz) := Lib.cell_of_heap BX_z_wf.out 2
      have z_z : wz.heap.size < wf.heap.size := (Array.getElem?_eq_some_iff.1 BX_z_wf.out).1
      go_wp2_with fail
      refine (hurt_any (rib 6000000 (hurtL (bytesL 2 (bl b)) at_.toNat u) []) _ at_ u _ HA_z_wf.out (by omega)).mono ?_
      rintro e wu ⟨Au, cu, he, hb⟩
      rw [HZ.out.2.2.1] at he
      obtain ⟨ha, rfl⟩ := he
      clear e_z0 e_z1 e_z2 z_z
      have HB_wu := Lib.hid (HB_wf.out.trans (hb.mono HB_wf.out.size))
      have BX_arr_wu := Lib.hid ((hb.block _ (Array.getElem?_eq_some_iff.1 BX_arr_wf.out).1).trans BX_arr_wf.out)
      have BX_r_wu := Lib.hid ((hb.block _ (Array.getElem?_eq_some_iff.1 BX_r_wf.out).1).trans BX_r_wf.out)
      have BX_x_wu := Lib.hid ((hb.block _ (Array.getElem?_eq_some_iff.1 BX_x_wf.out).1).trans BX_x_wf.out)
      have BX_y_wu := Lib.hid ((hb.block _ (Array.getElem?_eq_some_iff.1 BX_y_wf.out).1).trans BX_y_wf.out)
      have BX_z_wu := Lib.hid ((hb.block _ (Array.getElem?_eq_some_iff.1 BX_z_wf.out).1).trans BX_z_wf.out)
      have HA_r_wu := Lib.hid ((HA_r_wf.out.below hb).mono (B' := wu.heap.size) hb.size)
      have HA_x_wu := Lib.hid ((HA_x_wf.out.below hb).mono (B' := wu.heap.size) hb.size)
      have HA_y_wu := Lib.hid ((HA_y_wf.out.below hb).mono (B' := wu.heap.size) hb.size)
      have HA_z_wu := Lib.hid ((HA_z_wf.out.below hb).mono (B' := wu.heap.size) hb.size)
      have HG_wu := Lib.hid (hG.below HB_wu.out h5)
      clear hb
      have HA_u_wu := Lib.hid ha
      clear ha
      simp only [rib]
      go_wp2_with fail
      obtain ⟨Xu, hX⟩ : ∃ Xu, wu.alloc (.cells #[.int .i64 6000000, .string (mkB (bytesL 2 (bl b))), .slice Au 0 cu] 27) = Xu := ⟨_, rfl⟩
      have hbx : Below wu.heap.size wu Xu := by rw [← hX]; exact (Below.refl _ _).alloc (Nat.le_refl _) _
      have HB_Xu := Lib.hid (HB_wu.out.trans (hbx.mono HB_wu.out.size))
      have BX_arr_Xu := Lib.hid ((hbx.block _ (Array.getElem?_eq_some_iff.1 BX_arr_wu.out).1).trans BX_arr_wu.out)
      have BX_r_Xu := Lib.hid ((hbx.block _ (Array.getElem?_eq_some_iff.1 BX_r_wu.out).1).trans BX_r_wu.out)
      have BX_x_Xu := Lib.hid ((hbx.block _ (Array.getElem?_eq_some_iff.1 BX_x_wu.out).1).trans BX_x_wu.out)
      have BX_y_Xu := Lib.hid ((hbx.block _ (Array.getElem?_eq_some_iff.1 BX_y_wu.out).1).trans BX_y_wu.out)
      have BX_z_Xu := Lib.hid ((hbx.block _ (Array.getElem?_eq_some_iff.1 BX_z_wu.out).1).trans BX_z_wu.out)
      have HA_r_Xu := Lib.hid ((HA_r_wu.out.below hbx).mono (B' := Xu.heap.size) hbx.size)
      have HA_x_Xu := Lib.hid ((HA_x_wu.out.below hbx).mono (B' := Xu.heap.size) hbx.size)
      have HA_y_Xu := Lib.hid ((HA_y_wu.out.below hbx).mono (B' := Xu.heap.size) hbx.size)
      have HA_z_Xu := Lib.hid ((HA_z_wu.out.below hbx).mono (B' := Xu.heap.size) hbx.size)
      have HA_u_Xu := Lib.hid ((HA_u_wu.out.below hbx).mono (B' := Xu.heap.size) hbx.size)
      have HG_Xu := Lib.hid (hG.below HB_Xu.out h5)
      have BX_u_Xu : Hid (Xu.heap[wu.heap.size]? = some (.cells #[.int .i64 6000000, .string (mkB (bytesL 2 (bl b))), .slice Au 0 cu] 27 (0, 0))) := by rw [← hX]; exact heap_alloc_new _ _
      clear hbx
      rw [hX]
      clear hX
      refine (get_any (rib 6000000 (bytesL 2 (bl b)) []) _ _ HA_u_Xu.out HG_Xu.out).mono ?_
      rintro e wg ⟨hb, he⟩
      rw [HZ.out.2.2.2] at he
      simp only at he
      subst he
      have HB_wg := Lib.hid (HB_Xu.out.trans (hb.mono HB_Xu.out.size))
      have BX_arr_wg := Lib.hid ((hb.block _ (Array.getElem?_eq_some_iff.1 BX_arr_Xu.out).1).trans BX_arr_Xu.out)
      have BX_r_wg := Lib.hid ((hb.block _ (Array.getElem?_eq_some_iff.1 BX_r_Xu.out).1).trans BX_r_Xu.out)
      have BX_x_wg := Lib.hid ((hb.block _ (Array.getElem?_eq_some_iff.1 BX_x_Xu.out).1).trans BX_x_Xu.out)
      have BX_y_wg := Lib.hid ((hb.block _ (Array.getElem?_eq_some_iff.1 BX_y_Xu.out).1).trans BX_y_Xu.out)
      have BX_z_wg := Lib.hid ((hb.block _ (Array.getElem?_eq_some_iff.1 BX_z_Xu.out).1).trans BX_z_Xu.out)
      have BX_u_wg := Lib.hid ((hb.block _ (Array.getElem?_eq_some_iff.1 BX_u_Xu.out).1).trans BX_u_Xu.out)
      have HA_r_wg := Lib.hid ((HA_r_Xu.out.below hb).mono (B' := wg.heap.size) hb.size)
      have HA_x_wg := Lib.hid ((HA_x_Xu.out.below hb).mono (B' := wg.heap.size) hb.size)
      have HA_y_wg := Lib.hid ((HA_y_Xu.out.below hb).mono (B' := wg.heap.size) hb.size)
      have HA_z_wg := Lib.hid ((HA_z_Xu.out.below hb).mono (B' := wg.heap.size) hb.size)
      have HA_u_wg := Lib.hid ((HA_u_Xu.out.below hb).mono (B' := wg.heap.size) hb.size)
      have HG_wg := Lib.hid (hG.below HB_wg.out h5)
      clear hb
      go_wp2_with fail
      go_ret
      exact ⟨rfl, HB_wg.out⟩
    · have HP := Lib.hid (put_a a hza)
      have HQ := Lib.hid (put_large 6000000 HR.out (bytesL 1 (bl a)) (len1_le a hza) b (by omega))
      have hb' : (2000000 : Int) < b.size := by omega
      go_enter Tryd.func6, Tryd.ntmps6
      go_wp2_with fail
      rw [HX0.out]
      refine (sane_any _ HG_X0.out).mono ?_
      rintro e w1 ⟨rfl, hb⟩
      have HB_w1 := Lib.hid (HB_X0.out.trans (hb.mono HB_X0.out.size))
      have BX_arr_w1 := Lib.hid ((hb.block _ (Array.getElem?_eq_some_iff.1 BX_arr_X0.out).1).trans BX_arr_X0.out)
      have HG_w1 := Lib.hid (hG.below HB_w1.out h5)
      clear hb
      go_wp2_with fail
      refine (formatted_any 6000000 _ HG_w1.out).mono ?_
      rintro e wa ⟨Aa, ca, ⟨ha, rfl⟩, hb⟩
      rw [formattedR_ok HR.out] at ha ⊢
      have HB_wa := Lib.hid (HB_w1.out.trans (hb.mono HB_w1.out.size))
      have BX_arr_wa := Lib.hid ((hb.block _ (Array.getElem?_eq_some_iff.1 BX_arr_w1.out).1).trans BX_arr_w1.out)
      have HG_wa := Lib.hid (hG.below HB_wa.out h5)
      clear hb
      have HA_r_wa := Lib.hid ha
      clear ha
      simp only [rib]
      go_wp2_with fail
      obtain ⟨Xa, hX⟩ : ∃ Xa, wa.alloc (.cells #[.int .i64 6000000, .string (mkB (bytesL 0 [])), .slice Aa 0 ca] 27) = Xa := ⟨_, rfl⟩
      have hbx : Below wa.heap.size wa Xa := by rw [← hX]; exact (Below.refl _ _).alloc (Nat.le_refl _) _
      have HB_Xa := Lib.hid (HB_wa.out.trans (hbx.mono HB_wa.out.size))
      have BX_arr_Xa := Lib.hid ((hbx.block _ (Array.getElem?_eq_some_iff.1 BX_arr_wa.out).1).trans BX_arr_wa.out)
      have HA_r_Xa := Lib.hid ((HA_r_wa.out.below hbx).mono (B' := Xa.heap.size) hbx.size)
      have HG_Xa := Lib.hid (hG.below HB_Xa.out h5)
      have BX_r_Xa : Hid (Xa.heap[wa.heap.size]? = some (.cells #[.int .i64 6000000, .string (mkB (bytesL 0 [])), .slice Aa 0 ca] 27 (0, 0))) := by rw [← hX]; exact heap_alloc_new _ _
      clear hbx
      rw [hX]
      clear hX
      refine (putB_any (rib 6000000 (bytesL 0 []) []) _ a _ HA_r_Xa.out HG_Xa.out).mono ?_
      rintro e wc ⟨Ac, cc, ⟨ha, rfl⟩, hb⟩
      rw [HP.out] at ha ⊢
      have HB_wc := Lib.hid (HB_Xa.out.trans (hb.mono HB_Xa.out.size))
      have BX_arr_wc := Lib.hid ((hb.block _ (Array.getElem?_eq_some_iff.1 BX_arr_Xa.out).1).trans BX_arr_Xa.out)
      have BX_r_wc := Lib.hid ((hb.block _ (Array.getElem?_eq_some_iff.1 BX_r_Xa.out).1).trans BX_r_Xa.out)
      have HA_r_wc := Lib.hid ((HA_r_Xa.out.below hb).mono (B' := wc.heap.size) hb.size)
      have HG_wc := Lib.hid (hG.below HB_wc.out h5)
      clear hb
      have HA_x_wc := Lib.hid ha
      clear ha
      simp only [rib]
      go_wp2_with fail
      obtain ⟨Xc, hX⟩ : ∃ Xc, wc.alloc (.cells #[.int .i64 6000000, .string (mkB (bytesL 1 (bl a))), .slice Ac 0 cc] 27) = Xc := ⟨_, rfl⟩
      have hbx : Below wc.heap.size wc Xc := by rw [← hX]; exact (Below.refl _ _).alloc (Nat.le_refl _) _
      have HB_Xc := Lib.hid (HB_wc.out.trans (hbx.mono HB_wc.out.size))
      have BX_arr_Xc := Lib.hid ((hbx.block _ (Array.getElem?_eq_some_iff.1 BX_arr_wc.out).1).trans BX_arr_wc.out)
      have BX_r_Xc := Lib.hid ((hbx.block _ (Array.getElem?_eq_some_iff.1 BX_r_wc.out).1).trans BX_r_wc.out)
      have HA_r_Xc := Lib.hid ((HA_r_wc.out.below hbx).mono (B' := Xc.heap.size) hbx.size)
      have HA_x_Xc := Lib.hid ((HA_x_wc.out.below hbx).mono (B' := Xc.heap.size) hbx.size)
      have HG_Xc := Lib.hid (hG.below HB_Xc.out h5)
      have BX_x_Xc : Hid (Xc.heap[wc.heap.size]? = some (.cells #[.int .i64 6000000, .string (mkB (bytesL 1 (bl a))), .slice Ac 0 cc] 27 (0, 0))) := by rw [← hX]; exact heap_alloc_new _ _
      clear hbx
      rw [hX]
      clear hX
      refine (putB_any (rib 6000000 (bytesL 1 (bl a)) []) _ b _ HA_x_Xc.out HG_Xc.out).mono ?_
      rintro e we ⟨Ae, ce, ⟨ha, rfl⟩, hb⟩
      rw [HQ.out] at ha ⊢
      have HB_we := Lib.hid (HB_Xc.out.trans (hb.mono HB_Xc.out.size))
      have BX_arr_we := Lib.hid ((hb.block _ (Array.getElem?_eq_some_iff.1 BX_arr_Xc.out).1).trans BX_arr_Xc.out)
      have BX_r_we := Lib.hid ((hb.block _ (Array.getElem?_eq_some_iff.1 BX_r_Xc.out).1).trans BX_r_Xc.out)
      have BX_x_we := Lib.hid ((hb.block _ (Array.getElem?_eq_some_iff.1 BX_x_Xc.out).1).trans BX_x_Xc.out)
      have HA_r_we := Lib.hid ((HA_r_Xc.out.below hb).mono (B' := we.heap.size) hb.size)
      have HA_x_we := Lib.hid ((HA_x_Xc.out.below hb).mono (B' := we.heap.size) hb.size)
      have HG_we := Lib.hid (hG.below HB_we.out h5)
      clear hb
      have HA_y_we := Lib.hid ha
      clear ha
      simp only [rib]
      have e_arr0 : we.cell? ⟨w.heap.size, 0, none⟩ = some (.int .u16 x) := Lib.cell_of_heap BX_arr_we.out 0
      have e_arr1 : we.cell? ⟨w.heap.size, 1, none⟩ = some (.int .u16 y) := Lib.cell_of_heap BX_arr_we.out 1
      have z_arr : w.heap.size < we.heap.size := (Array.getElem?_eq_some_iff.1 BX_arr_we.out).1
      go_wp2_with fail
      obtain ⟨Xe, hX⟩ : ∃ Xe, we.alloc (.cells #[.int .i64 6000000, .string (mkB (bytesL 1 (bl a))), .slice Ae 0 ce] 27) = Xe := ⟨_, rfl⟩
      have hbx : Below we.heap.size we Xe := by rw [← hX]; exact (Below.refl _ _).alloc (Nat.le_refl _) _
      clear e_arr0 e_arr1 z_arr
      have HB_Xe := Lib.hid (HB_we.out.trans (hbx.mono HB_we.out.size))
      have BX_arr_Xe := Lib.hid ((hbx.block _ (Array.getElem?_eq_some_iff.1 BX_arr_we.out).1).trans BX_arr_we.out)
      have BX_r_Xe := Lib.hid ((hbx.block _ (Array.getElem?_eq_some_iff.1 BX_r_we.out).1).trans BX_r_we.out)
      have BX_x_Xe := Lib.hid ((hbx.block _ (Array.getElem?_eq_some_iff.1 BX_x_we.out).1).trans BX_x_we.out)
      have HA_r_Xe := Lib.hid ((HA_r_we.out.below hbx).mono (B' := Xe.heap.size) hbx.size)
      have HA_x_Xe := Lib.hid ((HA_x_we.out.below hbx).mono (B' := Xe.heap.size) hbx.size)
      have HA_y_Xe := Lib.hid ((HA_y_we.out.below hbx).mono (B' := Xe.heap.size) hbx.size)
      have HG_Xe := Lib.hid (hG.below HB_Xe.out h5)
      have BX_y_Xe : Hid (Xe.heap[we.heap.size]? = some (.cells #[.int .i64 6000000, .string (mkB (bytesL 1 (bl a))), .slice Ae 0 ce] 27 (0, 0))) := by rw [← hX]; exact heap_alloc_new _ _
      clear hbx
      rw [hX]
      clear hX
      go_wp2_with fail
      go_ret
      exact ⟨rfl, HB_Xe.out⟩
  · have HP := Lib.hid (put_large 6000000 HR.out (bytesL 0 []) (by rw [len0]; decide) a (by omega))
    have ha' : (2000000 : Int) < a.size := by omega
    go_enter Tryd.func6, Tryd.ntmps6
    go_wp2_with fail
    rw [HX0.out]
    refine (sane_any _ HG_X0.out).mono ?_
    rintro e w1 ⟨rfl, hb⟩
    have HB_w1 := Lib.hid (HB_X0.out.trans (hb.mono HB_X0.out.size))
    have BX_arr_w1 := Lib.hid ((hb.block _ (Array.getElem?_eq_some_iff.1 BX_arr_X0.out).1).trans BX_arr_X0.out)
    have HG_w1 := Lib.hid (hG.below HB_w1.out h5)
    clear hb
    go_wp2_with fail
    refine (formatted_any 6000000 _ HG_w1.out).mono ?_
    rintro e wa ⟨Aa, ca, ⟨ha, rfl⟩, hb⟩
    rw [formattedR_ok HR.out] at ha ⊢
    have HB_wa := Lib.hid (HB_w1.out.trans (hb.mono HB_w1.out.size))
    have BX_arr_wa := Lib.hid ((hb.block _ (Array.getElem?_eq_some_iff.1 BX_arr_w1.out).1).trans BX_arr_w1.out)
    have HG_wa := Lib.hid (hG.below HB_wa.out h5)
    clear hb
    have HA_r_wa := Lib.hid ha
    clear ha
    simp only [rib]
    go_wp2_with fail
    obtain ⟨Xa, hX⟩ : ∃ Xa, wa.alloc (.cells #[.int .i64 6000000, .string (mkB (bytesL 0 [])), .slice Aa 0 ca] 27) = Xa := ⟨_, rfl⟩
    have hbx : Below wa.heap.size wa Xa := by rw [← hX]; exact (Below.refl _ _).alloc (Nat.le_refl _) _
    have HB_Xa := Lib.hid (HB_wa.out.trans (hbx.mono HB_wa.out.size))
    have BX_arr_Xa := Lib.hid ((hbx.block _ (Array.getElem?_eq_some_iff.1 BX_arr_wa.out).1).trans BX_arr_wa.out)
    have HA_r_Xa := Lib.hid ((HA_r_wa.out.below hbx).mono (B' := Xa.heap.size) hbx.size)
    have HG_Xa := Lib.hid (hG.below HB_Xa.out h5)
    have BX_r_Xa : Hid (Xa.heap[wa.heap.size]? = some (.cells #[.int .i64 6000000, .string (mkB (bytesL 0 [])), .slice Aa 0 ca] 27 (0, 0))) := by rw [← hX]; exact heap_alloc_new _ _
    clear hbx
    rw [hX]
    clear hX
    refine (putB_any (rib 6000000 (bytesL 0 []) []) _ a _ HA_r_Xa.out HG_Xa.out).mono ?_
    rintro e wc ⟨Ac, cc, ⟨ha, rfl⟩, hb⟩
    rw [HP.out] at ha ⊢
    have HB_wc := Lib.hid (HB_Xa.out.trans (hb.mono HB_Xa.out.size))
    have BX_arr_wc := Lib.hid ((hb.block _ (Array.getElem?_eq_some_iff.1 BX_arr_Xa.out).1).trans BX_arr_Xa.out)
    have BX_r_wc := Lib.hid ((hb.block _ (Array.getElem?_eq_some_iff.1 BX_r_Xa.out).1).trans BX_r_Xa.out)
    have HA_r_wc := Lib.hid ((HA_r_Xa.out.below hb).mono (B' := wc.heap.size) hb.size)
    have HG_wc := Lib.hid (hG.below HB_wc.out h5)
    clear hb
    have HA_x_wc := Lib.hid ha
    clear ha
    simp only [rib]
    go_wp2_with fail
    obtain ⟨Xc, hX⟩ : ∃ Xc, wc.alloc (.cells #[.int .i64 6000000, .string (mkB (bytesL 0 [])), .slice Ac 0 cc] 27) = Xc := ⟨_, rfl⟩
    have hbx : Below wc.heap.size wc Xc := by rw [← hX]; exact (Below.refl _ _).alloc (Nat.le_refl _) _
    have HB_Xc := Lib.hid (HB_wc.out.trans (hbx.mono HB_wc.out.size))
    have BX_arr_Xc := Lib.hid ((hbx.block _ (Array.getElem?_eq_some_iff.1 BX_arr_wc.out).1).trans BX_arr_wc.out)
    have BX_r_Xc := Lib.hid ((hbx.block _ (Array.getElem?_eq_some_iff.1 BX_r_wc.out).1).trans BX_r_wc.out)
    have HA_r_Xc := Lib.hid ((HA_r_wc.out.below hbx).mono (B' := Xc.heap.size) hbx.size)
    have HA_x_Xc := Lib.hid ((HA_x_wc.out.below hbx).mono (B' := Xc.heap.size) hbx.size)
    have HG_Xc := Lib.hid (hG.below HB_Xc.out h5)
    have BX_x_Xc : Hid (Xc.heap[wc.heap.size]? = some (.cells #[.int .i64 6000000, .string (mkB (bytesL 0 [])), .slice Ac 0 cc] 27 (0, 0))) := by rw [← hX]; exact heap_alloc_new _ _
    clear hbx
    rw [hX]
    clear hX
    refine (putB_any (rib 6000000 (bytesL 0 []) []) _ b _ HA_x_Xc.out HG_Xc.out).mono ?_
    rintro e we ⟨Ae, ce, ⟨ha, rfl⟩, hb⟩
    generalize putBR (rib 6000000 (bytesL 0 []) []) b = rb
    obtain ⟨rr, rbb⟩ := rb
    clear ha
    have HB_we := Lib.hid (HB_Xc.out.trans (hb.mono HB_Xc.out.size))
    have BX_arr_we := Lib.hid ((hb.block _ (Array.getElem?_eq_some_iff.1 BX_arr_Xc.out).1).trans BX_arr_Xc.out)
    have BX_r_we := Lib.hid ((hb.block _ (Array.getElem?_eq_some_iff.1 BX_r_Xc.out).1).trans BX_r_Xc.out)
    have BX_x_we := Lib.hid ((hb.block _ (Array.getElem?_eq_some_iff.1 BX_x_Xc.out).1).trans BX_x_Xc.out)
    have HA_r_we := Lib.hid ((HA_r_Xc.out.below hb).mono (B' := we.heap.size) hb.size)
    have HA_x_we := Lib.hid ((HA_x_Xc.out.below hb).mono (B' := we.heap.size) hb.size)
    have HG_we := Lib.hid (hG.below HB_we.out h5)
    clear hb
    cases rbb
    all_goals go_wp2_with fail
    all_goals go_ret
    all_goals exact ⟨rfl, HB_we.out.alloc HB_we.out.size _⟩
end Go.Proofs.YtinkdjeanjhkbaaDoor
