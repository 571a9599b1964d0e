/-
  The walk of ImageRibbons.
-/
import Derived.Test.YtinkdjeanjhkbaaGreatDoorYI
import Derived.Test.YtinkdjeanjhkbaaGreatDoorYJ
import Derived.Test.YtinkdjeanjhkbaaGreatDoorZ
import Derived.Test.YtinkdjeanjhkbaaGreatDoorYK
import Derived.Deep.RegionHeld3
import Derived.Deep.CutRange
import Derived.Deep.Light
import Derived.StillTailTactics
import Derived.Test.YtinkdjeanjhkbaaGreatDoorPL
namespace Go.Proofs.YtinkdjeanjhkbaaGreatDoor
open Go.RowKit
attribute [local go_sem] size_mkB

theorem acts_head' {B : Nat} {w : World} {A : Option Addr} {c : Nat} {l : List RAct} (h : ActsIn B w (.slice A l.length c) l) (k : Nat) (hk : k ≤ l.length) :
    ∃ A', (∀ W : World, (Instr.slice 22 (.slice A l.length c) none (some (.int .i64 (k : Int))) none).run Tryz.prog W = .ok (.slice A' k c) W) ∧
      ∀ w' B', ActsIn B' w' (.slice A l.length c) l → ActsIn B' w' (.slice A' k c) (l.take k) := by
  obtain ⟨A', h1, h2⟩ := acts_head h k hk
  have e : (l.take k).length = k := by simp; omega
  rw [e] at h1
  simp only [e] at h2
  exact ⟨A', h1, h2⟩
theorem acts_tail' {B : Nat} {w : World} {A : Option Addr} {c : Nat} {l : List RAct} (h : ActsIn B w (.slice A l.length c) l) (k : Nat) (hk : k ≤ l.length) :
    ∃ A', (∀ W : World, (Instr.slice 22 (.slice A l.length c) (some (.int .i64 (k : Int))) none none).run Tryz.prog W = .ok (.slice A' (l.length - k) (c - k)) W) ∧
      ∀ w' B', ActsIn B' w' (.slice A l.length c) l → ActsIn B' w' (.slice A' (l.length - k) (c - k)) (l.drop k) := by
  obtain ⟨A', h1, h2⟩ := acts_tail h k hk
  have e : (l.drop k).length = l.length - k := by simp
  rw [e] at h1
  simp only [e] at h2
  exact ⟨A', h1, h2⟩

theorem hid_trans {B : Nat} {W w1 w2 : World} (h : Hid (Below W.heap.size W w1)) (hb : Below w1.heap.size w1 w2) : Hid (Below W.heap.size W w2) := h.out.trans (hb.mono h.out.size)

set_option maxHeartbeats 25600000 in
set_option maxRecDepth 100000 in
theorem ribbons_walk (r : Rib) (v lv : Value) (l : List RAct) (a b c : Int) (w : World) (hv : ActsIn w.heap.size w v r.acts) (hl : ActsIn w.heap.size w lv l) (hG : G w)
    (ha : -9223372036854775808 ≤ a ∧ a ≤ 9223372036854775807) (u : UInt8) (hu : b % 256 = u.toNat)
    (qa ql qh qn : Rib) (ea el eh en : Int) (hqa : Hid (ribOf (actR r l) = qa ∧ errOf 260 (actR r l) = ea)) (hql : Hid (ribOf (loseR r a b c) = ql ∧ errOf 260 (loseR r a b c) = el))
    (hqh : Hid (ribOf (hurtR r a u) = qh ∧ errOf (if r.valid then 1 else 260) (hurtR r a u) = eh)) (hqn : Hid (ribOf (newR c) = qn ∧ errOf 260 (newR c) = en))
    (qu qv : Rib) (eu ev e2 : Int) (k : Nat) (hk : k ≤ l.length) (HK2 : Hid ((l.length : Int) / 2 = (k : Int))) (hq2 : Hid (ribOf (loseR ql c a b) = ql ∧ errOf 260 (loseR ql c a b) = e2))
    (hqu : Hid (ribOf (actR r (l.take k)) = qu ∧ errOf 260 (actR r (l.take k)) = eu)) (hqv : Hid (ribOf (actR qu (l.drop k)) = qv ∧ errOf 260 (actR qu (l.drop k)) = ev))
    (hcl : Hid ((el = 0 ∧ e2 = 0) ∨ el = 260)) (hca : Hid ((ea = 0 ∧ eu = 0 ∧ ev = 0 ∧ qv = qa) ∨ ea = 260)) :
    Calls Tryz.prog 3 #[.agg #[.int .i64 r.room, .string r.fast, v], lv, .agg #[.int .i64 a, .int .i64 b, .int .i64 c]] w fun e w' => e = .returned (.bool true) ∧ Below w.heap.size w w' := by
  have h5 := hG.low
  have HA := Lib.hid ha
  have HU := Lib.hid hu
  clear ha hu
  have HV := Lib.hid hv
  have HL := Lib.hid hl
  obtain ⟨Av, cv, rfl, -, -, -⟩ := hv
  obtain ⟨Al, cl, rfl, -, -, -⟩ := hl
  obtain ⟨Ah, hrh, hih⟩ := acts_head' HL.out k hk
  obtain ⟨At, hrt, hit⟩ := acts_tail' HL.out k hk
  have HRH := Lib.hid hrh
  have HRT := Lib.hid hrt
  have HIH := Lib.hid hih
  have HIT := Lib.hid hit
  have hlm : (l.length : Int) ≤ 9223372036854775807 := by obtain ⟨_, _, e, h1, h2, h3⟩ := HL.out; omega
  clear hrh hrt hih hit
  obtain ⟨X0, hX0⟩ : ∃ X0, (w.alloc (.cells #[.int .i64 r.room, .string r.fast, .slice Av r.acts.length cv] 24)).alloc (.cells #[.int .i64 a, .int .i64 b, .int .i64 c] 25) = X0 := ⟨_, rfl⟩
  obtain ⟨bx, ax, hb, -⟩ := two_new (w1 := X0) (by rw [← hX0]; exact Below.refl _ _)
  have HB_X0 := Lib.hid hb
  have HG_X0 := Lib.hid (hG.below hb h5)
  have BX_r_X0 := Lib.hid bx
  have BX_n_X0 := Lib.hid ax
  have HA_v_X0 := Lib.hid ((HV.out.below hb).mono (B' := X0.heap.size) hb.size)
  have HA_l_X0 := Lib.hid ((HL.out.below hb).mono (B' := X0.heap.size) hb.size)
  have HX0 := Lib.hid hX0
  clear hb bx ax hX0
  go_enter Tryz.func3, Tryz.ntmps3
  go_wp2_with fail
  rw [HX0.out]
  refine (sane_any _ HG_X0.out).mono ?_
  rintro e w0 ⟨rfl, hb⟩
  have HB_w0 := Lib.hid (HB_X0.out.trans (hb.mono HB_X0.out.size))
  have BX_r_w0 := Lib.hid ((hb.block _ (Array.getElem?_eq_some_iff.1 BX_r_X0.out).1).trans BX_r_X0.out)
  have BX_n_w0 := Lib.hid ((hb.block _ (Array.getElem?_eq_some_iff.1 BX_n_X0.out).1).trans BX_n_X0.out)
  have HA_v_w0 := Lib.hid ((HA_v_X0.out.below hb).mono (B' := w0.heap.size) hb.size)
  have HA_l_w0 := Lib.hid ((HA_l_X0.out.below hb).mono (B' := w0.heap.size) hb.size)
  have HG_w0 := Lib.hid (hG.below HB_w0.out h5)
  clear HB_X0 HG_X0 BX_r_X0 BX_n_X0 HA_v_X0 HA_l_X0 
  clear hb
  have e_r0 : w0.cell? ⟨w.heap.size, 0, none⟩ = some (.int .i64 r.room) := Lib.cell_of_heap BX_r_w0.out 0
  have e_r1 : w0.cell? ⟨w.heap.size, 1, none⟩ = some (.string r.fast) := Lib.cell_of_heap BX_r_w0.out 1
  have e_r2 : w0.cell? ⟨w.heap.size, 2, none⟩ = some (.slice Av r.acts.length cv) := Lib.cell_of_heap BX_r_w0.out 2
  have z_r : w.heap.size < w0.heap.size := (Array.getElem?_eq_some_iff.1 BX_r_w0.out).1
  have e_n0 : w0.cell? ⟨(w.heap.size + 1), 0, none⟩ = some (.int .i64 a) := Lib.cell_of_heap BX_n_w0.out 0
  have e_n1 : w0.cell? ⟨(w.heap.size + 1), 1, none⟩ = some (.int .i64 b) := Lib.cell_of_heap BX_n_w0.out 1
  have e_n2 : w0.cell? ⟨(w.heap.size + 1), 2, none⟩ = some (.int .i64 c) := Lib.cell_of_heap BX_n_w0.out 2
  have z_n : (w.heap.size + 1) < w0.heap.size := (Array.getElem?_eq_some_iff.1 BX_n_w0.out).1
  go_wp2_with fail
  refine (act_ret r _ _ l _ HA_v_w0.out HA_l_w0.out).mono ?_
  rintro e y1 ⟨A1, c1, ha, he, hb⟩
  rw [hqa.out.1] at ha
  rw [hqa.out.1, hqa.out.2] at he
  subst he
  clear e_r0 e_r1 e_r2 z_r e_n0 e_n1 e_n2 z_n
  have HB_y1 := Lib.hid (HB_w0.out.trans (hb.mono HB_w0.out.size))
  have BX_r_y1 := Lib.hid ((hb.block _ (Array.getElem?_eq_some_iff.1 BX_r_w0.out).1).trans BX_r_w0.out)
  have BX_n_y1 := Lib.hid ((hb.block _ (Array.getElem?_eq_some_iff.1 BX_n_w0.out).1).trans BX_n_w0.out)
  have HA_v_y1 := Lib.hid ((HA_v_w0.out.below hb).mono (B' := y1.heap.size) hb.size)
  have HA_l_y1 := Lib.hid ((HA_l_w0.out.below hb).mono (B' := y1.heap.size) hb.size)
  have HG_y1 := Lib.hid (hG.below HB_y1.out h5)
  clear HB_w0 HG_w0 BX_r_w0 BX_n_w0 HA_v_w0 HA_l_w0 
  clear hb
  have HA_a1_y1 := ha
  clear ha
  have e_r0 : y1.cell? ⟨w.heap.size, 0, none⟩ = some (.int .i64 r.room) := Lib.cell_of_heap BX_r_y1.out 0
  have e_r1 : y1.cell? ⟨w.heap.size, 1, none⟩ = some (.string r.fast) := Lib.cell_of_heap BX_r_y1.out 1
  have e_r2 : y1.cell? ⟨w.heap.size, 2, none⟩ = some (.slice Av r.acts.length cv) := Lib.cell_of_heap BX_r_y1.out 2
  have z_r : w.heap.size < y1.heap.size := (Array.getElem?_eq_some_iff.1 BX_r_y1.out).1
  have e_n0 : y1.cell? ⟨(w.heap.size + 1), 0, none⟩ = some (.int .i64 a) := Lib.cell_of_heap BX_n_y1.out 0
  have e_n1 : y1.cell? ⟨(w.heap.size + 1), 1, none⟩ = some (.int .i64 b) := Lib.cell_of_heap BX_n_y1.out 1
  have e_n2 : y1.cell? ⟨(w.heap.size + 1), 2, none⟩ = some (.int .i64 c) := Lib.cell_of_heap BX_n_y1.out 2
  have z_n : (w.heap.size + 1) < y1.heap.size := (Array.getElem?_eq_some_iff.1 BX_n_y1.out).1
  go_wp2_with fail
  obtain ⟨Y1, hX⟩ : ∃ Y1, y1.alloc (.cells #[.int .i64 qa.room, .string qa.fast, .slice A1 qa.acts.length c1] 24) = Y1 := ⟨_, rfl⟩
  have hbx : Below y1.heap.size y1 Y1 := by rw [← hX]; exact (Below.refl _ _).alloc (Nat.le_refl _) _
  clear e_r0 e_r1 e_r2 z_r e_n0 e_n1 e_n2 z_n
  have HB_Y1 := Lib.hid (HB_y1.out.trans (hbx.mono HB_y1.out.size))
  have BX_r_Y1 := Lib.hid ((hbx.block _ (Array.getElem?_eq_some_iff.1 BX_r_y1.out).1).trans BX_r_y1.out)
  have BX_n_Y1 := Lib.hid ((hbx.block _ (Array.getElem?_eq_some_iff.1 BX_n_y1.out).1).trans BX_n_y1.out)
  have HA_v_Y1 := Lib.hid ((HA_v_y1.out.below hbx).mono (B' := Y1.heap.size) hbx.size)
  have HA_l_Y1 := Lib.hid ((HA_l_y1.out.below hbx).mono (B' := Y1.heap.size) hbx.size)
  have HA_a1_Y1 := Lib.hid ((HA_a1_y1.out.below hbx).mono (B' := Y1.heap.size) hbx.size)
  have HG_Y1 := Lib.hid (hG.below HB_Y1.out h5)
  clear HB_y1 HG_y1 BX_r_y1 BX_n_y1 HA_v_y1 HA_l_y1 HA_a1_y1 
  have BX_a1_Y1 : Hid (Y1.heap[y1.heap.size]? = some (.cells #[.int .i64 qa.room, .string qa.fast, .slice A1 qa.acts.length c1] 24 (0, 0))) := by rw [← hX]; exact heap_alloc_new _ _
  clear hbx
  rw [hX]
  clear hX
  have e_r0 : Y1.cell? ⟨w.heap.size, 0, none⟩ = some (.int .i64 r.room) := Lib.cell_of_heap BX_r_Y1.out 0
  have e_r1 : Y1.cell? ⟨w.heap.size, 1, none⟩ = some (.string r.fast) := Lib.cell_of_heap BX_r_Y1.out 1
  have e_r2 : Y1.cell? ⟨w.heap.size, 2, none⟩ = some (.slice Av r.acts.length cv) := Lib.cell_of_heap BX_r_Y1.out 2
  have z_r : w.heap.size < Y1.heap.size := (Array.getElem?_eq_some_iff.1 BX_r_Y1.out).1
  have e_n0 : Y1.cell? ⟨(w.heap.size + 1), 0, none⟩ = some (.int .i64 a) := Lib.cell_of_heap BX_n_Y1.out 0
  have e_n1 : Y1.cell? ⟨(w.heap.size + 1), 1, none⟩ = some (.int .i64 b) := Lib.cell_of_heap BX_n_Y1.out 1
  have e_n2 : Y1.cell? ⟨(w.heap.size + 1), 2, none⟩ = some (.int .i64 c) := Lib.cell_of_heap BX_n_Y1.out 2
  have z_n : (w.heap.size + 1) < Y1.heap.size := (Array.getElem?_eq_some_iff.1 BX_n_Y1.out).1
  try dsimp only
  go_wp2_with fail
  refine (ract_ret r _ _ l _ HA_v_Y1.out HA_l_Y1.out).mono ?_
  rintro e y2 ⟨A2, c2, ha, he, hb⟩
  rw [hqa.out.1] at ha
  rw [hqa.out.1, hqa.out.2] at he
  subst he
  clear e_r0 e_r1 e_r2 z_r e_n0 e_n1 e_n2 z_n
  have HB_y2 := Lib.hid (HB_Y1.out.trans (hb.mono HB_Y1.out.size))
  have BX_r_y2 := Lib.hid ((hb.block _ (Array.getElem?_eq_some_iff.1 BX_r_Y1.out).1).trans BX_r_Y1.out)
  have BX_n_y2 := Lib.hid ((hb.block _ (Array.getElem?_eq_some_iff.1 BX_n_Y1.out).1).trans BX_n_Y1.out)
  have BX_a1_y2 := Lib.hid ((hb.block _ (Array.getElem?_eq_some_iff.1 BX_a1_Y1.out).1).trans BX_a1_Y1.out)
  have HA_v_y2 := Lib.hid ((HA_v_Y1.out.below hb).mono (B' := y2.heap.size) hb.size)
  have HA_l_y2 := Lib.hid ((HA_l_Y1.out.below hb).mono (B' := y2.heap.size) hb.size)
  have HA_a1_y2 := Lib.hid ((HA_a1_Y1.out.below hb).mono (B' := y2.heap.size) hb.size)
  have HG_y2 := Lib.hid (hG.below HB_y2.out h5)
  clear HB_Y1 HG_Y1 BX_r_Y1 BX_n_Y1 BX_a1_Y1 HA_v_Y1 HA_l_Y1 HA_a1_Y1 
  clear hb
  have HA_a2_y2 := ha
  clear ha
  have e_r0 : y2.cell? ⟨w.heap.size, 0, none⟩ = some (.int .i64 r.room) := Lib.cell_of_heap BX_r_y2.out 0
  have e_r1 : y2.cell? ⟨w.heap.size, 1, none⟩ = some (.string r.fast) := Lib.cell_of_heap BX_r_y2.out 1
  have e_r2 : y2.cell? ⟨w.heap.size, 2, none⟩ = some (.slice Av r.acts.length cv) := Lib.cell_of_heap BX_r_y2.out 2
  have z_r : w.heap.size < y2.heap.size := (Array.getElem?_eq_some_iff.1 BX_r_y2.out).1
  have e_n0 : y2.cell? ⟨(w.heap.size + 1), 0, none⟩ = some (.int .i64 a) := Lib.cell_of_heap BX_n_y2.out 0
  have e_n1 : y2.cell? ⟨(w.heap.size + 1), 1, none⟩ = some (.int .i64 b) := Lib.cell_of_heap BX_n_y2.out 1
  have e_n2 : y2.cell? ⟨(w.heap.size + 1), 2, none⟩ = some (.int .i64 c) := Lib.cell_of_heap BX_n_y2.out 2
  have z_n : (w.heap.size + 1) < y2.heap.size := (Array.getElem?_eq_some_iff.1 BX_n_y2.out).1
  go_wp2_with fail
  obtain ⟨Y2, hX⟩ : ∃ Y2, y2.alloc (.cells #[.int .i64 qa.room, .string qa.fast, .slice A2 qa.acts.length c2] 24) = Y2 := ⟨_, rfl⟩
  have hbx : Below y2.heap.size y2 Y2 := by rw [← hX]; exact (Below.refl _ _).alloc (Nat.le_refl _) _
  clear e_r0 e_r1 e_r2 z_r e_n0 e_n1 e_n2 z_n
  have HB_Y2 := Lib.hid (HB_y2.out.trans (hbx.mono HB_y2.out.size))
  have BX_r_Y2 := Lib.hid ((hbx.block _ (Array.getElem?_eq_some_iff.1 BX_r_y2.out).1).trans BX_r_y2.out)
  have BX_n_Y2 := Lib.hid ((hbx.block _ (Array.getElem?_eq_some_iff.1 BX_n_y2.out).1).trans BX_n_y2.out)
  have BX_a1_Y2 := Lib.hid ((hbx.block _ (Array.getElem?_eq_some_iff.1 BX_a1_y2.out).1).trans BX_a1_y2.out)
  have HA_v_Y2 := Lib.hid ((HA_v_y2.out.below hbx).mono (B' := Y2.heap.size) hbx.size)
  have HA_l_Y2 := Lib.hid ((HA_l_y2.out.below hbx).mono (B' := Y2.heap.size) hbx.size)
  have HA_a1_Y2 := Lib.hid ((HA_a1_y2.out.below hbx).mono (B' := Y2.heap.size) hbx.size)
  have HA_a2_Y2 := Lib.hid ((HA_a2_y2.out.below hbx).mono (B' := Y2.heap.size) hbx.size)
  have HG_Y2 := Lib.hid (hG.below HB_Y2.out h5)
  clear HB_y2 HG_y2 BX_r_y2 BX_n_y2 BX_a1_y2 HA_v_y2 HA_l_y2 HA_a1_y2 HA_a2_y2 
  have BX_a2_Y2 : Hid (Y2.heap[y2.heap.size]? = some (.cells #[.int .i64 qa.room, .string qa.fast, .slice A2 qa.acts.length c2] 24 (0, 0))) := by rw [← hX]; exact heap_alloc_new _ _
  clear hbx
  rw [hX]
  clear hX
  have e_r0 : Y2.cell? ⟨w.heap.size, 0, none⟩ = some (.int .i64 r.room) := Lib.cell_of_heap BX_r_Y2.out 0
  have e_r1 : Y2.cell? ⟨w.heap.size, 1, none⟩ = some (.string r.fast) := Lib.cell_of_heap BX_r_Y2.out 1
  have e_r2 : Y2.cell? ⟨w.heap.size, 2, none⟩ = some (.slice Av r.acts.length cv) := Lib.cell_of_heap BX_r_Y2.out 2
  have z_r : w.heap.size < Y2.heap.size := (Array.getElem?_eq_some_iff.1 BX_r_Y2.out).1
  have e_n0 : Y2.cell? ⟨(w.heap.size + 1), 0, none⟩ = some (.int .i64 a) := Lib.cell_of_heap BX_n_Y2.out 0
  have e_n1 : Y2.cell? ⟨(w.heap.size + 1), 1, none⟩ = some (.int .i64 b) := Lib.cell_of_heap BX_n_Y2.out 1
  have e_n2 : Y2.cell? ⟨(w.heap.size + 1), 2, none⟩ = some (.int .i64 c) := Lib.cell_of_heap BX_n_Y2.out 2
  have z_n : (w.heap.size + 1) < Y2.heap.size := (Array.getElem?_eq_some_iff.1 BX_n_Y2.out).1
  try dsimp only
  go_wp2_with fail
  refine (lose_ret r _ a b c _ HA_v_Y2.out).mono ?_
  rintro e y3 ⟨A3, c3, ha, he, hb⟩
  rw [hql.out.1] at ha
  rw [hql.out.1, hql.out.2] at he
  subst he
  clear e_r0 e_r1 e_r2 z_r e_n0 e_n1 e_n2 z_n
  have HB_y3 := Lib.hid (HB_Y2.out.trans (hb.mono HB_Y2.out.size))
  have BX_r_y3 := Lib.hid ((hb.block _ (Array.getElem?_eq_some_iff.1 BX_r_Y2.out).1).trans BX_r_Y2.out)
  have BX_n_y3 := Lib.hid ((hb.block _ (Array.getElem?_eq_some_iff.1 BX_n_Y2.out).1).trans BX_n_Y2.out)
  have BX_a1_y3 := Lib.hid ((hb.block _ (Array.getElem?_eq_some_iff.1 BX_a1_Y2.out).1).trans BX_a1_Y2.out)
  have BX_a2_y3 := Lib.hid ((hb.block _ (Array.getElem?_eq_some_iff.1 BX_a2_Y2.out).1).trans BX_a2_Y2.out)
  have HA_v_y3 := Lib.hid ((HA_v_Y2.out.below hb).mono (B' := y3.heap.size) hb.size)
  have HA_l_y3 := Lib.hid ((HA_l_Y2.out.below hb).mono (B' := y3.heap.size) hb.size)
  have HA_a1_y3 := Lib.hid ((HA_a1_Y2.out.below hb).mono (B' := y3.heap.size) hb.size)
  have HA_a2_y3 := Lib.hid ((HA_a2_Y2.out.below hb).mono (B' := y3.heap.size) hb.size)
  have HG_y3 := Lib.hid (hG.below HB_y3.out h5)
  clear HB_Y2 HG_Y2 BX_r_Y2 BX_n_Y2 BX_a1_Y2 BX_a2_Y2 HA_v_Y2 HA_l_Y2 HA_a1_Y2 HA_a2_Y2 
  clear hb
  have HA_l1_y3 := ha
  clear ha
  have e_r0 : y3.cell? ⟨w.heap.size, 0, none⟩ = some (.int .i64 r.room) := Lib.cell_of_heap BX_r_y3.out 0
  have e_r1 : y3.cell? ⟨w.heap.size, 1, none⟩ = some (.string r.fast) := Lib.cell_of_heap BX_r_y3.out 1
  have e_r2 : y3.cell? ⟨w.heap.size, 2, none⟩ = some (.slice Av r.acts.length cv) := Lib.cell_of_heap BX_r_y3.out 2
  have z_r : w.heap.size < y3.heap.size := (Array.getElem?_eq_some_iff.1 BX_r_y3.out).1
  have e_n0 : y3.cell? ⟨(w.heap.size + 1), 0, none⟩ = some (.int .i64 a) := Lib.cell_of_heap BX_n_y3.out 0
  have e_n1 : y3.cell? ⟨(w.heap.size + 1), 1, none⟩ = some (.int .i64 b) := Lib.cell_of_heap BX_n_y3.out 1
  have e_n2 : y3.cell? ⟨(w.heap.size + 1), 2, none⟩ = some (.int .i64 c) := Lib.cell_of_heap BX_n_y3.out 2
  have z_n : (w.heap.size + 1) < y3.heap.size := (Array.getElem?_eq_some_iff.1 BX_n_y3.out).1
  go_wp2_with fail
  obtain ⟨Y3, hX⟩ : ∃ Y3, y3.alloc (.cells #[.int .i64 ql.room, .string ql.fast, .slice A3 ql.acts.length c3] 24) = Y3 := ⟨_, rfl⟩
  have hbx : Below y3.heap.size y3 Y3 := by rw [← hX]; exact (Below.refl _ _).alloc (Nat.le_refl _) _
  clear e_r0 e_r1 e_r2 z_r e_n0 e_n1 e_n2 z_n
  have HB_Y3 := Lib.hid (HB_y3.out.trans (hbx.mono HB_y3.out.size))
  have BX_r_Y3 := Lib.hid ((hbx.block _ (Array.getElem?_eq_some_iff.1 BX_r_y3.out).1).trans BX_r_y3.out)
  have BX_n_Y3 := Lib.hid ((hbx.block _ (Array.getElem?_eq_some_iff.1 BX_n_y3.out).1).trans BX_n_y3.out)
  have BX_a1_Y3 := Lib.hid ((hbx.block _ (Array.getElem?_eq_some_iff.1 BX_a1_y3.out).1).trans BX_a1_y3.out)
  have BX_a2_Y3 := Lib.hid ((hbx.block _ (Array.getElem?_eq_some_iff.1 BX_a2_y3.out).1).trans BX_a2_y3.out)
  have HA_v_Y3 := Lib.hid ((HA_v_y3.out.below hbx).mono (B' := Y3.heap.size) hbx.size)
  have HA_l_Y3 := Lib.hid ((HA_l_y3.out.below hbx).mono (B' := Y3.heap.size) hbx.size)
  have HA_a1_Y3 := Lib.hid ((HA_a1_y3.out.below hbx).mono (B' := Y3.heap.size) hbx.size)
  have HA_a2_Y3 := Lib.hid ((HA_a2_y3.out.below hbx).mono (B' := Y3.heap.size) hbx.size)
  have HA_l1_Y3 := Lib.hid ((HA_l1_y3.out.below hbx).mono (B' := Y3.heap.size) hbx.size)
  have HG_Y3 := Lib.hid (hG.below HB_Y3.out h5)
  clear HB_y3 HG_y3 BX_r_y3 BX_n_y3 BX_a1_y3 BX_a2_y3 HA_v_y3 HA_l_y3 HA_a1_y3 HA_a2_y3 HA_l1_y3 
  have BX_l1_Y3 : Hid (Y3.heap[y3.heap.size]? = some (.cells #[.int .i64 ql.room, .string ql.fast, .slice A3 ql.acts.length c3] 24 (0, 0))) := by rw [← hX]; exact heap_alloc_new _ _
  clear hbx
  rw [hX]
  clear hX
  have e_r0 : Y3.cell? ⟨w.heap.size, 0, none⟩ = some (.int .i64 r.room) := Lib.cell_of_heap BX_r_Y3.out 0
  have e_r1 : Y3.cell? ⟨w.heap.size, 1, none⟩ = some (.string r.fast) := Lib.cell_of_heap BX_r_Y3.out 1
  have e_r2 : Y3.cell? ⟨w.heap.size, 2, none⟩ = some (.slice Av r.acts.length cv) := Lib.cell_of_heap BX_r_Y3.out 2
  have z_r : w.heap.size < Y3.heap.size := (Array.getElem?_eq_some_iff.1 BX_r_Y3.out).1
  have e_n0 : Y3.cell? ⟨(w.heap.size + 1), 0, none⟩ = some (.int .i64 a) := Lib.cell_of_heap BX_n_Y3.out 0
  have e_n1 : Y3.cell? ⟨(w.heap.size + 1), 1, none⟩ = some (.int .i64 b) := Lib.cell_of_heap BX_n_Y3.out 1
  have e_n2 : Y3.cell? ⟨(w.heap.size + 1), 2, none⟩ = some (.int .i64 c) := Lib.cell_of_heap BX_n_Y3.out 2
  have z_n : (w.heap.size + 1) < Y3.heap.size := (Array.getElem?_eq_some_iff.1 BX_n_Y3.out).1
  try dsimp only
  go_wp2_with fail
  refine (rlose_ret r _ a b c _ HA_v_Y3.out).mono ?_
  rintro e y4 ⟨A4, c4, ha, he, hb⟩
  rw [hql.out.1] at ha
  rw [hql.out.1, hql.out.2] at he
  subst he
  clear e_r0 e_r1 e_r2 z_r e_n0 e_n1 e_n2 z_n
  have HB_y4 := Lib.hid (HB_Y3.out.trans (hb.mono HB_Y3.out.size))
  have BX_r_y4 := Lib.hid ((hb.block _ (Array.getElem?_eq_some_iff.1 BX_r_Y3.out).1).trans BX_r_Y3.out)
  have BX_n_y4 := Lib.hid ((hb.block _ (Array.getElem?_eq_some_iff.1 BX_n_Y3.out).1).trans BX_n_Y3.out)
  have BX_a1_y4 := Lib.hid ((hb.block _ (Array.getElem?_eq_some_iff.1 BX_a1_Y3.out).1).trans BX_a1_Y3.out)
  have BX_a2_y4 := Lib.hid ((hb.block _ (Array.getElem?_eq_some_iff.1 BX_a2_Y3.out).1).trans BX_a2_Y3.out)
  have BX_l1_y4 := Lib.hid ((hb.block _ (Array.getElem?_eq_some_iff.1 BX_l1_Y3.out).1).trans BX_l1_Y3.out)
  have HA_v_y4 := Lib.hid ((HA_v_Y3.out.below hb).mono (B' := y4.heap.size) hb.size)
  have HA_l_y4 := Lib.hid ((HA_l_Y3.out.below hb).mono (B' := y4.heap.size) hb.size)
  have HA_a1_y4 := Lib.hid ((HA_a1_Y3.out.below hb).mono (B' := y4.heap.size) hb.size)
  have HA_a2_y4 := Lib.hid ((HA_a2_Y3.out.below hb).mono (B' := y4.heap.size) hb.size)
  have HA_l1_y4 := Lib.hid ((HA_l1_Y3.out.below hb).mono (B' := y4.heap.size) hb.size)
  have HG_y4 := Lib.hid (hG.below HB_y4.out h5)
  clear HB_Y3 HG_Y3 BX_r_Y3 BX_n_Y3 BX_a1_Y3 BX_a2_Y3 BX_l1_Y3 HA_v_Y3 HA_l_Y3 HA_a1_Y3 HA_a2_Y3 HA_l1_Y3 
  clear hb
  have HA_l2_y4 := ha
  clear ha
  have e_r0 : y4.cell? ⟨w.heap.size, 0, none⟩ = some (.int .i64 r.room) := Lib.cell_of_heap BX_r_y4.out 0
  have e_r1 : y4.cell? ⟨w.heap.size, 1, none⟩ = some (.string r.fast) := Lib.cell_of_heap BX_r_y4.out 1
  have e_r2 : y4.cell? ⟨w.heap.size, 2, none⟩ = some (.slice Av r.acts.length cv) := Lib.cell_of_heap BX_r_y4.out 2
  have z_r : w.heap.size < y4.heap.size := (Array.getElem?_eq_some_iff.1 BX_r_y4.out).1
  have e_n0 : y4.cell? ⟨(w.heap.size + 1), 0, none⟩ = some (.int .i64 a) := Lib.cell_of_heap BX_n_y4.out 0
  have e_n1 : y4.cell? ⟨(w.heap.size + 1), 1, none⟩ = some (.int .i64 b) := Lib.cell_of_heap BX_n_y4.out 1
  have e_n2 : y4.cell? ⟨(w.heap.size + 1), 2, none⟩ = some (.int .i64 c) := Lib.cell_of_heap BX_n_y4.out 2
  have z_n : (w.heap.size + 1) < y4.heap.size := (Array.getElem?_eq_some_iff.1 BX_n_y4.out).1
  go_wp2_with fail
  obtain ⟨Y4, hX⟩ : ∃ Y4, y4.alloc (.cells #[.int .i64 ql.room, .string ql.fast, .slice A4 ql.acts.length c4] 24) = Y4 := ⟨_, rfl⟩
  have hbx : Below y4.heap.size y4 Y4 := by rw [← hX]; exact (Below.refl _ _).alloc (Nat.le_refl _) _
  clear e_r0 e_r1 e_r2 z_r e_n0 e_n1 e_n2 z_n
  have HB_Y4 := Lib.hid (HB_y4.out.trans (hbx.mono HB_y4.out.size))
  have BX_r_Y4 := Lib.hid ((hbx.block _ (Array.getElem?_eq_some_iff.1 BX_r_y4.out).1).trans BX_r_y4.out)
  have BX_n_Y4 := Lib.hid ((hbx.block _ (Array.getElem?_eq_some_iff.1 BX_n_y4.out).1).trans BX_n_y4.out)
  have BX_a1_Y4 := Lib.hid ((hbx.block _ (Array.getElem?_eq_some_iff.1 BX_a1_y4.out).1).trans BX_a1_y4.out)
  have BX_a2_Y4 := Lib.hid ((hbx.block _ (Array.getElem?_eq_some_iff.1 BX_a2_y4.out).1).trans BX_a2_y4.out)
  have BX_l1_Y4 := Lib.hid ((hbx.block _ (Array.getElem?_eq_some_iff.1 BX_l1_y4.out).1).trans BX_l1_y4.out)
  have HA_v_Y4 := Lib.hid ((HA_v_y4.out.below hbx).mono (B' := Y4.heap.size) hbx.size)
  have HA_l_Y4 := Lib.hid ((HA_l_y4.out.below hbx).mono (B' := Y4.heap.size) hbx.size)
  have HA_a1_Y4 := Lib.hid ((HA_a1_y4.out.below hbx).mono (B' := Y4.heap.size) hbx.size)
  have HA_a2_Y4 := Lib.hid ((HA_a2_y4.out.below hbx).mono (B' := Y4.heap.size) hbx.size)
  have HA_l1_Y4 := Lib.hid ((HA_l1_y4.out.below hbx).mono (B' := Y4.heap.size) hbx.size)
  have HA_l2_Y4 := Lib.hid ((HA_l2_y4.out.below hbx).mono (B' := Y4.heap.size) hbx.size)
  have HG_Y4 := Lib.hid (hG.below HB_Y4.out h5)
  clear HB_y4 HG_y4 BX_r_y4 BX_n_y4 BX_a1_y4 BX_a2_y4 BX_l1_y4 HA_v_y4 HA_l_y4 HA_a1_y4 HA_a2_y4 HA_l1_y4 HA_l2_y4 
  have BX_l2_Y4 : Hid (Y4.heap[y4.heap.size]? = some (.cells #[.int .i64 ql.room, .string ql.fast, .slice A4 ql.acts.length c4] 24 (0, 0))) := by rw [← hX]; exact heap_alloc_new _ _
  clear hbx
  rw [hX]
  clear hX
  have e_r0 : Y4.cell? ⟨w.heap.size, 0, none⟩ = some (.int .i64 r.room) := Lib.cell_of_heap BX_r_Y4.out 0
  have e_r1 : Y4.cell? ⟨w.heap.size, 1, none⟩ = some (.string r.fast) := Lib.cell_of_heap BX_r_Y4.out 1
  have e_r2 : Y4.cell? ⟨w.heap.size, 2, none⟩ = some (.slice Av r.acts.length cv) := Lib.cell_of_heap BX_r_Y4.out 2
  have z_r : w.heap.size < Y4.heap.size := (Array.getElem?_eq_some_iff.1 BX_r_Y4.out).1
  have e_n0 : Y4.cell? ⟨(w.heap.size + 1), 0, none⟩ = some (.int .i64 a) := Lib.cell_of_heap BX_n_Y4.out 0
  have e_n1 : Y4.cell? ⟨(w.heap.size + 1), 1, none⟩ = some (.int .i64 b) := Lib.cell_of_heap BX_n_Y4.out 1
  have e_n2 : Y4.cell? ⟨(w.heap.size + 1), 2, none⟩ = some (.int .i64 c) := Lib.cell_of_heap BX_n_Y4.out 2
  have z_n : (w.heap.size + 1) < Y4.heap.size := (Array.getElem?_eq_some_iff.1 BX_n_Y4.out).1
  try dsimp only
  go_wp2_with fail
  try rw [HU.out]
  refine (hurt_ret r _ a u _ HA_v_Y4.out HA.out).mono ?_
  rintro e y5 ⟨A5, c5, ha, he, hb⟩
  rw [hqh.out.1] at ha
  rw [hqh.out.1, hqh.out.2] at he
  subst he
  clear e_r0 e_r1 e_r2 z_r e_n0 e_n1 e_n2 z_n
  have HB_y5 := Lib.hid (HB_Y4.out.trans (hb.mono HB_Y4.out.size))
  have BX_r_y5 := Lib.hid ((hb.block _ (Array.getElem?_eq_some_iff.1 BX_r_Y4.out).1).trans BX_r_Y4.out)
  have BX_n_y5 := Lib.hid ((hb.block _ (Array.getElem?_eq_some_iff.1 BX_n_Y4.out).1).trans BX_n_Y4.out)
  have BX_a1_y5 := Lib.hid ((hb.block _ (Array.getElem?_eq_some_iff.1 BX_a1_Y4.out).1).trans BX_a1_Y4.out)
  have BX_a2_y5 := Lib.hid ((hb.block _ (Array.getElem?_eq_some_iff.1 BX_a2_Y4.out).1).trans BX_a2_Y4.out)
  have BX_l1_y5 := Lib.hid ((hb.block _ (Array.getElem?_eq_some_iff.1 BX_l1_Y4.out).1).trans BX_l1_Y4.out)
  have BX_l2_y5 := Lib.hid ((hb.block _ (Array.getElem?_eq_some_iff.1 BX_l2_Y4.out).1).trans BX_l2_Y4.out)
  have HA_v_y5 := Lib.hid ((HA_v_Y4.out.below hb).mono (B' := y5.heap.size) hb.size)
  have HA_l_y5 := Lib.hid ((HA_l_Y4.out.below hb).mono (B' := y5.heap.size) hb.size)
  have HA_a1_y5 := Lib.hid ((HA_a1_Y4.out.below hb).mono (B' := y5.heap.size) hb.size)
  have HA_a2_y5 := Lib.hid ((HA_a2_Y4.out.below hb).mono (B' := y5.heap.size) hb.size)
  have HA_l1_y5 := Lib.hid ((HA_l1_Y4.out.below hb).mono (B' := y5.heap.size) hb.size)
  have HA_l2_y5 := Lib.hid ((HA_l2_Y4.out.below hb).mono (B' := y5.heap.size) hb.size)
  have HG_y5 := Lib.hid (hG.below HB_y5.out h5)
  clear HB_Y4 HG_Y4 BX_r_Y4 BX_n_Y4 BX_a1_Y4 BX_a2_Y4 BX_l1_Y4 BX_l2_Y4 HA_v_Y4 HA_l_Y4 HA_a1_Y4 HA_a2_Y4 HA_l1_Y4 HA_l2_Y4 
  clear hb
  have HA_h1_y5 := ha
  clear ha
  have e_r0 : y5.cell? ⟨w.heap.size, 0, none⟩ = some (.int .i64 r.room) := Lib.cell_of_heap BX_r_y5.out 0
  have e_r1 : y5.cell? ⟨w.heap.size, 1, none⟩ = some (.string r.fast) := Lib.cell_of_heap BX_r_y5.out 1
  have e_r2 : y5.cell? ⟨w.heap.size, 2, none⟩ = some (.slice Av r.acts.length cv) := Lib.cell_of_heap BX_r_y5.out 2
  have z_r : w.heap.size < y5.heap.size := (Array.getElem?_eq_some_iff.1 BX_r_y5.out).1
  have e_n0 : y5.cell? ⟨(w.heap.size + 1), 0, none⟩ = some (.int .i64 a) := Lib.cell_of_heap BX_n_y5.out 0
  have e_n1 : y5.cell? ⟨(w.heap.size + 1), 1, none⟩ = some (.int .i64 b) := Lib.cell_of_heap BX_n_y5.out 1
  have e_n2 : y5.cell? ⟨(w.heap.size + 1), 2, none⟩ = some (.int .i64 c) := Lib.cell_of_heap BX_n_y5.out 2
  have z_n : (w.heap.size + 1) < y5.heap.size := (Array.getElem?_eq_some_iff.1 BX_n_y5.out).1
  go_wp2_with fail
  obtain ⟨Y5, hX⟩ : ∃ Y5, y5.alloc (.cells #[.int .i64 qh.room, .string qh.fast, .slice A5 qh.acts.length c5] 24) = Y5 := ⟨_, rfl⟩
  have hbx : Below y5.heap.size y5 Y5 := by rw [← hX]; exact (Below.refl _ _).alloc (Nat.le_refl _) _
  clear e_r0 e_r1 e_r2 z_r e_n0 e_n1 e_n2 z_n
  have HB_Y5 := Lib.hid (HB_y5.out.trans (hbx.mono HB_y5.out.size))
  have BX_r_Y5 := Lib.hid ((hbx.block _ (Array.getElem?_eq_some_iff.1 BX_r_y5.out).1).trans BX_r_y5.out)
  have BX_n_Y5 := Lib.hid ((hbx.block _ (Array.getElem?_eq_some_iff.1 BX_n_y5.out).1).trans BX_n_y5.out)
  have BX_a1_Y5 := Lib.hid ((hbx.block _ (Array.getElem?_eq_some_iff.1 BX_a1_y5.out).1).trans BX_a1_y5.out)
  have BX_a2_Y5 := Lib.hid ((hbx.block _ (Array.getElem?_eq_some_iff.1 BX_a2_y5.out).1).trans BX_a2_y5.out)
  have BX_l1_Y5 := Lib.hid ((hbx.block _ (Array.getElem?_eq_some_iff.1 BX_l1_y5.out).1).trans BX_l1_y5.out)
  have BX_l2_Y5 := Lib.hid ((hbx.block _ (Array.getElem?_eq_some_iff.1 BX_l2_y5.out).1).trans BX_l2_y5.out)
  have HA_v_Y5 := Lib.hid ((HA_v_y5.out.below hbx).mono (B' := Y5.heap.size) hbx.size)
  have HA_l_Y5 := Lib.hid ((HA_l_y5.out.below hbx).mono (B' := Y5.heap.size) hbx.size)
  have HA_a1_Y5 := Lib.hid ((HA_a1_y5.out.below hbx).mono (B' := Y5.heap.size) hbx.size)
  have HA_a2_Y5 := Lib.hid ((HA_a2_y5.out.below hbx).mono (B' := Y5.heap.size) hbx.size)
  have HA_l1_Y5 := Lib.hid ((HA_l1_y5.out.below hbx).mono (B' := Y5.heap.size) hbx.size)
  have HA_l2_Y5 := Lib.hid ((HA_l2_y5.out.below hbx).mono (B' := Y5.heap.size) hbx.size)
  have HA_h1_Y5 := Lib.hid ((HA_h1_y5.out.below hbx).mono (B' := Y5.heap.size) hbx.size)
  have HG_Y5 := Lib.hid (hG.below HB_Y5.out h5)
  clear HB_y5 HG_y5 BX_r_y5 BX_n_y5 BX_a1_y5 BX_a2_y5 BX_l1_y5 BX_l2_y5 HA_v_y5 HA_l_y5 HA_a1_y5 HA_a2_y5 HA_l1_y5 HA_l2_y5 HA_h1_y5 
  have BX_h1_Y5 : Hid (Y5.heap[y5.heap.size]? = some (.cells #[.int .i64 qh.room, .string qh.fast, .slice A5 qh.acts.length c5] 24 (0, 0))) := by rw [← hX]; exact heap_alloc_new _ _
  clear hbx
  rw [hX]
  clear hX
  have e_r0 : Y5.cell? ⟨w.heap.size, 0, none⟩ = some (.int .i64 r.room) := Lib.cell_of_heap BX_r_Y5.out 0
  have e_r1 : Y5.cell? ⟨w.heap.size, 1, none⟩ = some (.string r.fast) := Lib.cell_of_heap BX_r_Y5.out 1
  have e_r2 : Y5.cell? ⟨w.heap.size, 2, none⟩ = some (.slice Av r.acts.length cv) := Lib.cell_of_heap BX_r_Y5.out 2
  have z_r : w.heap.size < Y5.heap.size := (Array.getElem?_eq_some_iff.1 BX_r_Y5.out).1
  have e_n0 : Y5.cell? ⟨(w.heap.size + 1), 0, none⟩ = some (.int .i64 a) := Lib.cell_of_heap BX_n_Y5.out 0
  have e_n1 : Y5.cell? ⟨(w.heap.size + 1), 1, none⟩ = some (.int .i64 b) := Lib.cell_of_heap BX_n_Y5.out 1
  have e_n2 : Y5.cell? ⟨(w.heap.size + 1), 2, none⟩ = some (.int .i64 c) := Lib.cell_of_heap BX_n_Y5.out 2
  have z_n : (w.heap.size + 1) < Y5.heap.size := (Array.getElem?_eq_some_iff.1 BX_n_Y5.out).1
  try dsimp only
  go_wp2_with fail
  try rw [HU.out]
  refine (rhurt_ret r _ a u _ HA_v_Y5.out HA.out).mono ?_
  rintro e y6 ⟨A6, c6, ha, he, hb⟩
  rw [hqh.out.1] at ha
  rw [hqh.out.1, hqh.out.2] at he
  subst he
  clear e_r0 e_r1 e_r2 z_r e_n0 e_n1 e_n2 z_n
  have HB_y6 := Lib.hid (HB_Y5.out.trans (hb.mono HB_Y5.out.size))
  have BX_r_y6 := Lib.hid ((hb.block _ (Array.getElem?_eq_some_iff.1 BX_r_Y5.out).1).trans BX_r_Y5.out)
  have BX_n_y6 := Lib.hid ((hb.block _ (Array.getElem?_eq_some_iff.1 BX_n_Y5.out).1).trans BX_n_Y5.out)
  have BX_a1_y6 := Lib.hid ((hb.block _ (Array.getElem?_eq_some_iff.1 BX_a1_Y5.out).1).trans BX_a1_Y5.out)
  have BX_a2_y6 := Lib.hid ((hb.block _ (Array.getElem?_eq_some_iff.1 BX_a2_Y5.out).1).trans BX_a2_Y5.out)
  have BX_l1_y6 := Lib.hid ((hb.block _ (Array.getElem?_eq_some_iff.1 BX_l1_Y5.out).1).trans BX_l1_Y5.out)
  have BX_l2_y6 := Lib.hid ((hb.block _ (Array.getElem?_eq_some_iff.1 BX_l2_Y5.out).1).trans BX_l2_Y5.out)
  have BX_h1_y6 := Lib.hid ((hb.block _ (Array.getElem?_eq_some_iff.1 BX_h1_Y5.out).1).trans BX_h1_Y5.out)
  have HA_v_y6 := Lib.hid ((HA_v_Y5.out.below hb).mono (B' := y6.heap.size) hb.size)
  have HA_l_y6 := Lib.hid ((HA_l_Y5.out.below hb).mono (B' := y6.heap.size) hb.size)
  have HA_a1_y6 := Lib.hid ((HA_a1_Y5.out.below hb).mono (B' := y6.heap.size) hb.size)
  have HA_a2_y6 := Lib.hid ((HA_a2_Y5.out.below hb).mono (B' := y6.heap.size) hb.size)
  have HA_l1_y6 := Lib.hid ((HA_l1_Y5.out.below hb).mono (B' := y6.heap.size) hb.size)
  have HA_l2_y6 := Lib.hid ((HA_l2_Y5.out.below hb).mono (B' := y6.heap.size) hb.size)
  have HA_h1_y6 := Lib.hid ((HA_h1_Y5.out.below hb).mono (B' := y6.heap.size) hb.size)
  have HG_y6 := Lib.hid (hG.below HB_y6.out h5)
  clear HB_Y5 HG_Y5 BX_r_Y5 BX_n_Y5 BX_a1_Y5 BX_a2_Y5 BX_l1_Y5 BX_l2_Y5 BX_h1_Y5 HA_v_Y5 HA_l_Y5 HA_a1_Y5 HA_a2_Y5 HA_l1_Y5 HA_l2_Y5 HA_h1_Y5 
  clear hb
  have HA_h2_y6 := ha
  clear ha
  have e_r0 : y6.cell? ⟨w.heap.size, 0, none⟩ = some (.int .i64 r.room) := Lib.cell_of_heap BX_r_y6.out 0
  have e_r1 : y6.cell? ⟨w.heap.size, 1, none⟩ = some (.string r.fast) := Lib.cell_of_heap BX_r_y6.out 1
  have e_r2 : y6.cell? ⟨w.heap.size, 2, none⟩ = some (.slice Av r.acts.length cv) := Lib.cell_of_heap BX_r_y6.out 2
  have z_r : w.heap.size < y6.heap.size := (Array.getElem?_eq_some_iff.1 BX_r_y6.out).1
  have e_n0 : y6.cell? ⟨(w.heap.size + 1), 0, none⟩ = some (.int .i64 a) := Lib.cell_of_heap BX_n_y6.out 0
  have e_n1 : y6.cell? ⟨(w.heap.size + 1), 1, none⟩ = some (.int .i64 b) := Lib.cell_of_heap BX_n_y6.out 1
  have e_n2 : y6.cell? ⟨(w.heap.size + 1), 2, none⟩ = some (.int .i64 c) := Lib.cell_of_heap BX_n_y6.out 2
  have z_n : (w.heap.size + 1) < y6.heap.size := (Array.getElem?_eq_some_iff.1 BX_n_y6.out).1
  go_wp2_with fail
  obtain ⟨Y6, hX⟩ : ∃ Y6, y6.alloc (.cells #[.int .i64 qh.room, .string qh.fast, .slice A6 qh.acts.length c6] 24) = Y6 := ⟨_, rfl⟩
  have hbx : Below y6.heap.size y6 Y6 := by rw [← hX]; exact (Below.refl _ _).alloc (Nat.le_refl _) _
  clear e_r0 e_r1 e_r2 z_r e_n0 e_n1 e_n2 z_n
  have HB_Y6 := Lib.hid (HB_y6.out.trans (hbx.mono HB_y6.out.size))
  have BX_r_Y6 := Lib.hid ((hbx.block _ (Array.getElem?_eq_some_iff.1 BX_r_y6.out).1).trans BX_r_y6.out)
  have BX_n_Y6 := Lib.hid ((hbx.block _ (Array.getElem?_eq_some_iff.1 BX_n_y6.out).1).trans BX_n_y6.out)
  have BX_a1_Y6 := Lib.hid ((hbx.block _ (Array.getElem?_eq_some_iff.1 BX_a1_y6.out).1).trans BX_a1_y6.out)
  have BX_a2_Y6 := Lib.hid ((hbx.block _ (Array.getElem?_eq_some_iff.1 BX_a2_y6.out).1).trans BX_a2_y6.out)
  have BX_l1_Y6 := Lib.hid ((hbx.block _ (Array.getElem?_eq_some_iff.1 BX_l1_y6.out).1).trans BX_l1_y6.out)
  have BX_l2_Y6 := Lib.hid ((hbx.block _ (Array.getElem?_eq_some_iff.1 BX_l2_y6.out).1).trans BX_l2_y6.out)
  have BX_h1_Y6 := Lib.hid ((hbx.block _ (Array.getElem?_eq_some_iff.1 BX_h1_y6.out).1).trans BX_h1_y6.out)
  have HA_v_Y6 := Lib.hid ((HA_v_y6.out.below hbx).mono (B' := Y6.heap.size) hbx.size)
  have HA_l_Y6 := Lib.hid ((HA_l_y6.out.below hbx).mono (B' := Y6.heap.size) hbx.size)
  have HA_a1_Y6 := Lib.hid ((HA_a1_y6.out.below hbx).mono (B' := Y6.heap.size) hbx.size)
  have HA_a2_Y6 := Lib.hid ((HA_a2_y6.out.below hbx).mono (B' := Y6.heap.size) hbx.size)
  have HA_l1_Y6 := Lib.hid ((HA_l1_y6.out.below hbx).mono (B' := Y6.heap.size) hbx.size)
  have HA_l2_Y6 := Lib.hid ((HA_l2_y6.out.below hbx).mono (B' := Y6.heap.size) hbx.size)
  have HA_h1_Y6 := Lib.hid ((HA_h1_y6.out.below hbx).mono (B' := Y6.heap.size) hbx.size)
  have HA_h2_Y6 := Lib.hid ((HA_h2_y6.out.below hbx).mono (B' := Y6.heap.size) hbx.size)
  have HG_Y6 := Lib.hid (hG.below HB_Y6.out h5)
  clear HB_y6 HG_y6 BX_r_y6 BX_n_y6 BX_a1_y6 BX_a2_y6 BX_l1_y6 BX_l2_y6 BX_h1_y6 HA_v_y6 HA_l_y6 HA_a1_y6 HA_a2_y6 HA_l1_y6 HA_l2_y6 HA_h1_y6 HA_h2_y6 
  have BX_h2_Y6 : Hid (Y6.heap[y6.heap.size]? = some (.cells #[.int .i64 qh.room, .string qh.fast, .slice A6 qh.acts.length c6] 24 (0, 0))) := by rw [← hX]; exact heap_alloc_new _ _
  clear hbx
  rw [hX]
  clear hX
  have e_r0 : Y6.cell? ⟨w.heap.size, 0, none⟩ = some (.int .i64 r.room) := Lib.cell_of_heap BX_r_Y6.out 0
  have e_r1 : Y6.cell? ⟨w.heap.size, 1, none⟩ = some (.string r.fast) := Lib.cell_of_heap BX_r_Y6.out 1
  have e_r2 : Y6.cell? ⟨w.heap.size, 2, none⟩ = some (.slice Av r.acts.length cv) := Lib.cell_of_heap BX_r_Y6.out 2
  have z_r : w.heap.size < Y6.heap.size := (Array.getElem?_eq_some_iff.1 BX_r_Y6.out).1
  have e_n0 : Y6.cell? ⟨(w.heap.size + 1), 0, none⟩ = some (.int .i64 a) := Lib.cell_of_heap BX_n_Y6.out 0
  have e_n1 : Y6.cell? ⟨(w.heap.size + 1), 1, none⟩ = some (.int .i64 b) := Lib.cell_of_heap BX_n_Y6.out 1
  have e_n2 : Y6.cell? ⟨(w.heap.size + 1), 2, none⟩ = some (.int .i64 c) := Lib.cell_of_heap BX_n_Y6.out 2
  have z_n : (w.heap.size + 1) < Y6.heap.size := (Array.getElem?_eq_some_iff.1 BX_n_Y6.out).1
  try dsimp only
  go_wp2_with fail
  refine (new_ret c _).mono ?_
  rintro e y7 ⟨A7, c7, ha, he, hb⟩
  rw [hqn.out.1] at ha
  rw [hqn.out.1, hqn.out.2] at he
  subst he
  clear e_r0 e_r1 e_r2 z_r e_n0 e_n1 e_n2 z_n
  have HB_y7 := Lib.hid (HB_Y6.out.trans (hb.mono HB_Y6.out.size))
  have BX_r_y7 := Lib.hid ((hb.block _ (Array.getElem?_eq_some_iff.1 BX_r_Y6.out).1).trans BX_r_Y6.out)
  have BX_n_y7 := Lib.hid ((hb.block _ (Array.getElem?_eq_some_iff.1 BX_n_Y6.out).1).trans BX_n_Y6.out)
  have BX_a1_y7 := Lib.hid ((hb.block _ (Array.getElem?_eq_some_iff.1 BX_a1_Y6.out).1).trans BX_a1_Y6.out)
  have BX_a2_y7 := Lib.hid ((hb.block _ (Array.getElem?_eq_some_iff.1 BX_a2_Y6.out).1).trans BX_a2_Y6.out)
  have BX_l1_y7 := Lib.hid ((hb.block _ (Array.getElem?_eq_some_iff.1 BX_l1_Y6.out).1).trans BX_l1_Y6.out)
  have BX_l2_y7 := Lib.hid ((hb.block _ (Array.getElem?_eq_some_iff.1 BX_l2_Y6.out).1).trans BX_l2_Y6.out)
  have BX_h1_y7 := Lib.hid ((hb.block _ (Array.getElem?_eq_some_iff.1 BX_h1_Y6.out).1).trans BX_h1_Y6.out)
  have BX_h2_y7 := Lib.hid ((hb.block _ (Array.getElem?_eq_some_iff.1 BX_h2_Y6.out).1).trans BX_h2_Y6.out)
  have HA_v_y7 := Lib.hid ((HA_v_Y6.out.below hb).mono (B' := y7.heap.size) hb.size)
  have HA_l_y7 := Lib.hid ((HA_l_Y6.out.below hb).mono (B' := y7.heap.size) hb.size)
  have HA_a1_y7 := Lib.hid ((HA_a1_Y6.out.below hb).mono (B' := y7.heap.size) hb.size)
  have HA_a2_y7 := Lib.hid ((HA_a2_Y6.out.below hb).mono (B' := y7.heap.size) hb.size)
  have HA_l1_y7 := Lib.hid ((HA_l1_Y6.out.below hb).mono (B' := y7.heap.size) hb.size)
  have HA_l2_y7 := Lib.hid ((HA_l2_Y6.out.below hb).mono (B' := y7.heap.size) hb.size)
  have HA_h1_y7 := Lib.hid ((HA_h1_Y6.out.below hb).mono (B' := y7.heap.size) hb.size)
  have HA_h2_y7 := Lib.hid ((HA_h2_Y6.out.below hb).mono (B' := y7.heap.size) hb.size)
  have HG_y7 := Lib.hid (hG.below HB_y7.out h5)
  clear HB_Y6 HG_Y6 BX_r_Y6 BX_n_Y6 BX_a1_Y6 BX_a2_Y6 BX_l1_Y6 BX_l2_Y6 BX_h1_Y6 BX_h2_Y6 HA_v_Y6 HA_l_Y6 HA_a1_Y6 HA_a2_Y6 HA_l1_Y6 HA_l2_Y6 HA_h1_Y6 HA_h2_Y6 
  clear hb
  have HA_n1_y7 := ha
  clear ha
  have e_r0 : y7.cell? ⟨w.heap.size, 0, none⟩ = some (.int .i64 r.room) := Lib.cell_of_heap BX_r_y7.out 0
  have e_r1 : y7.cell? ⟨w.heap.size, 1, none⟩ = some (.string r.fast) := Lib.cell_of_heap BX_r_y7.out 1
  have e_r2 : y7.cell? ⟨w.heap.size, 2, none⟩ = some (.slice Av r.acts.length cv) := Lib.cell_of_heap BX_r_y7.out 2
  have z_r : w.heap.size < y7.heap.size := (Array.getElem?_eq_some_iff.1 BX_r_y7.out).1
  have e_n0 : y7.cell? ⟨(w.heap.size + 1), 0, none⟩ = some (.int .i64 a) := Lib.cell_of_heap BX_n_y7.out 0
  have e_n1 : y7.cell? ⟨(w.heap.size + 1), 1, none⟩ = some (.int .i64 b) := Lib.cell_of_heap BX_n_y7.out 1
  have e_n2 : y7.cell? ⟨(w.heap.size + 1), 2, none⟩ = some (.int .i64 c) := Lib.cell_of_heap BX_n_y7.out 2
  have z_n : (w.heap.size + 1) < y7.heap.size := (Array.getElem?_eq_some_iff.1 BX_n_y7.out).1
  go_wp2_with fail
  obtain ⟨Y7, hX⟩ : ∃ Y7, y7.alloc (.cells #[.int .i64 qn.room, .string qn.fast, .slice A7 qn.acts.length c7] 24) = Y7 := ⟨_, rfl⟩
  have hbx : Below y7.heap.size y7 Y7 := by rw [← hX]; exact (Below.refl _ _).alloc (Nat.le_refl _) _
  clear e_r0 e_r1 e_r2 z_r e_n0 e_n1 e_n2 z_n
  have HB_Y7 := Lib.hid (HB_y7.out.trans (hbx.mono HB_y7.out.size))
  have BX_r_Y7 := Lib.hid ((hbx.block _ (Array.getElem?_eq_some_iff.1 BX_r_y7.out).1).trans BX_r_y7.out)
  have BX_n_Y7 := Lib.hid ((hbx.block _ (Array.getElem?_eq_some_iff.1 BX_n_y7.out).1).trans BX_n_y7.out)
  have BX_a1_Y7 := Lib.hid ((hbx.block _ (Array.getElem?_eq_some_iff.1 BX_a1_y7.out).1).trans BX_a1_y7.out)
  have BX_a2_Y7 := Lib.hid ((hbx.block _ (Array.getElem?_eq_some_iff.1 BX_a2_y7.out).1).trans BX_a2_y7.out)
  have BX_l1_Y7 := Lib.hid ((hbx.block _ (Array.getElem?_eq_some_iff.1 BX_l1_y7.out).1).trans BX_l1_y7.out)
  have BX_l2_Y7 := Lib.hid ((hbx.block _ (Array.getElem?_eq_some_iff.1 BX_l2_y7.out).1).trans BX_l2_y7.out)
  have BX_h1_Y7 := Lib.hid ((hbx.block _ (Array.getElem?_eq_some_iff.1 BX_h1_y7.out).1).trans BX_h1_y7.out)
  have BX_h2_Y7 := Lib.hid ((hbx.block _ (Array.getElem?_eq_some_iff.1 BX_h2_y7.out).1).trans BX_h2_y7.out)
  have HA_v_Y7 := Lib.hid ((HA_v_y7.out.below hbx).mono (B' := Y7.heap.size) hbx.size)
  have HA_l_Y7 := Lib.hid ((HA_l_y7.out.below hbx).mono (B' := Y7.heap.size) hbx.size)
  have HA_a1_Y7 := Lib.hid ((HA_a1_y7.out.below hbx).mono (B' := Y7.heap.size) hbx.size)
  have HA_a2_Y7 := Lib.hid ((HA_a2_y7.out.below hbx).mono (B' := Y7.heap.size) hbx.size)
  have HA_l1_Y7 := Lib.hid ((HA_l1_y7.out.below hbx).mono (B' := Y7.heap.size) hbx.size)
  have HA_l2_Y7 := Lib.hid ((HA_l2_y7.out.below hbx).mono (B' := Y7.heap.size) hbx.size)
  have HA_h1_Y7 := Lib.hid ((HA_h1_y7.out.below hbx).mono (B' := Y7.heap.size) hbx.size)
  have HA_h2_Y7 := Lib.hid ((HA_h2_y7.out.below hbx).mono (B' := Y7.heap.size) hbx.size)
  have HA_n1_Y7 := Lib.hid ((HA_n1_y7.out.below hbx).mono (B' := Y7.heap.size) hbx.size)
  have HG_Y7 := Lib.hid (hG.below HB_Y7.out h5)
  clear HB_y7 HG_y7 BX_r_y7 BX_n_y7 BX_a1_y7 BX_a2_y7 BX_l1_y7 BX_l2_y7 BX_h1_y7 BX_h2_y7 HA_v_y7 HA_l_y7 HA_a1_y7 HA_a2_y7 HA_l1_y7 HA_l2_y7 HA_h1_y7 HA_h2_y7 HA_n1_y7 
  have BX_n1_Y7 : Hid (Y7.heap[y7.heap.size]? = some (.cells #[.int .i64 qn.room, .string qn.fast, .slice A7 qn.acts.length c7] 24 (0, 0))) := by rw [← hX]; exact heap_alloc_new _ _
  clear hbx
  rw [hX]
  clear hX
  have e_r0 : Y7.cell? ⟨w.heap.size, 0, none⟩ = some (.int .i64 r.room) := Lib.cell_of_heap BX_r_Y7.out 0
  have e_r1 : Y7.cell? ⟨w.heap.size, 1, none⟩ = some (.string r.fast) := Lib.cell_of_heap BX_r_Y7.out 1
  have e_r2 : Y7.cell? ⟨w.heap.size, 2, none⟩ = some (.slice Av r.acts.length cv) := Lib.cell_of_heap BX_r_Y7.out 2
  have z_r : w.heap.size < Y7.heap.size := (Array.getElem?_eq_some_iff.1 BX_r_Y7.out).1
  have e_n0 : Y7.cell? ⟨(w.heap.size + 1), 0, none⟩ = some (.int .i64 a) := Lib.cell_of_heap BX_n_Y7.out 0
  have e_n1 : Y7.cell? ⟨(w.heap.size + 1), 1, none⟩ = some (.int .i64 b) := Lib.cell_of_heap BX_n_Y7.out 1
  have e_n2 : Y7.cell? ⟨(w.heap.size + 1), 2, none⟩ = some (.int .i64 c) := Lib.cell_of_heap BX_n_Y7.out 2
  have z_n : (w.heap.size + 1) < Y7.heap.size := (Array.getElem?_eq_some_iff.1 BX_n_Y7.out).1
  try dsimp only
  go_wp2_with fail
  refine (rnew_ret c _).mono ?_
  rintro e y8 ⟨A8, c8, ha, he, hb⟩
  rw [hqn.out.1] at ha
  rw [hqn.out.1, hqn.out.2] at he
  subst he
  clear e_r0 e_r1 e_r2 z_r e_n0 e_n1 e_n2 z_n
  have HB_y8 := Lib.hid (HB_Y7.out.trans (hb.mono HB_Y7.out.size))
  have BX_r_y8 := Lib.hid ((hb.block _ (Array.getElem?_eq_some_iff.1 BX_r_Y7.out).1).trans BX_r_Y7.out)
  have BX_n_y8 := Lib.hid ((hb.block _ (Array.getElem?_eq_some_iff.1 BX_n_Y7.out).1).trans BX_n_Y7.out)
  have BX_a1_y8 := Lib.hid ((hb.block _ (Array.getElem?_eq_some_iff.1 BX_a1_Y7.out).1).trans BX_a1_Y7.out)
  have BX_a2_y8 := Lib.hid ((hb.block _ (Array.getElem?_eq_some_iff.1 BX_a2_Y7.out).1).trans BX_a2_Y7.out)
  have BX_l1_y8 := Lib.hid ((hb.block _ (Array.getElem?_eq_some_iff.1 BX_l1_Y7.out).1).trans BX_l1_Y7.out)
  have BX_l2_y8 := Lib.hid ((hb.block _ (Array.getElem?_eq_some_iff.1 BX_l2_Y7.out).1).trans BX_l2_Y7.out)
  have BX_h1_y8 := Lib.hid ((hb.block _ (Array.getElem?_eq_some_iff.1 BX_h1_Y7.out).1).trans BX_h1_Y7.out)
  have BX_h2_y8 := Lib.hid ((hb.block _ (Array.getElem?_eq_some_iff.1 BX_h2_Y7.out).1).trans BX_h2_Y7.out)
  have BX_n1_y8 := Lib.hid ((hb.block _ (Array.getElem?_eq_some_iff.1 BX_n1_Y7.out).1).trans BX_n1_Y7.out)
  have HA_v_y8 := Lib.hid ((HA_v_Y7.out.below hb).mono (B' := y8.heap.size) hb.size)
  have HA_l_y8 := Lib.hid ((HA_l_Y7.out.below hb).mono (B' := y8.heap.size) hb.size)
  have HA_a1_y8 := Lib.hid ((HA_a1_Y7.out.below hb).mono (B' := y8.heap.size) hb.size)
  have HA_a2_y8 := Lib.hid ((HA_a2_Y7.out.below hb).mono (B' := y8.heap.size) hb.size)
  have HA_l1_y8 := Lib.hid ((HA_l1_Y7.out.below hb).mono (B' := y8.heap.size) hb.size)
  have HA_l2_y8 := Lib.hid ((HA_l2_Y7.out.below hb).mono (B' := y8.heap.size) hb.size)
  have HA_h1_y8 := Lib.hid ((HA_h1_Y7.out.below hb).mono (B' := y8.heap.size) hb.size)
  have HA_h2_y8 := Lib.hid ((HA_h2_Y7.out.below hb).mono (B' := y8.heap.size) hb.size)
  have HA_n1_y8 := Lib.hid ((HA_n1_Y7.out.below hb).mono (B' := y8.heap.size) hb.size)
  have HG_y8 := Lib.hid (hG.below HB_y8.out h5)
  clear HB_Y7 HG_Y7 BX_r_Y7 BX_n_Y7 BX_a1_Y7 BX_a2_Y7 BX_l1_Y7 BX_l2_Y7 BX_h1_Y7 BX_h2_Y7 BX_n1_Y7 HA_v_Y7 HA_l_Y7 HA_a1_Y7 HA_a2_Y7 HA_l1_Y7 HA_l2_Y7 HA_h1_Y7 HA_h2_Y7 HA_n1_Y7 
  clear hb
  have HA_n2_y8 := ha
  clear ha
  have e_r0 : y8.cell? ⟨w.heap.size, 0, none⟩ = some (.int .i64 r.room) := Lib.cell_of_heap BX_r_y8.out 0
  have e_r1 : y8.cell? ⟨w.heap.size, 1, none⟩ = some (.string r.fast) := Lib.cell_of_heap BX_r_y8.out 1
  have e_r2 : y8.cell? ⟨w.heap.size, 2, none⟩ = some (.slice Av r.acts.length cv) := Lib.cell_of_heap BX_r_y8.out 2
  have z_r : w.heap.size < y8.heap.size := (Array.getElem?_eq_some_iff.1 BX_r_y8.out).1
  have e_n0 : y8.cell? ⟨(w.heap.size + 1), 0, none⟩ = some (.int .i64 a) := Lib.cell_of_heap BX_n_y8.out 0
  have e_n1 : y8.cell? ⟨(w.heap.size + 1), 1, none⟩ = some (.int .i64 b) := Lib.cell_of_heap BX_n_y8.out 1
  have e_n2 : y8.cell? ⟨(w.heap.size + 1), 2, none⟩ = some (.int .i64 c) := Lib.cell_of_heap BX_n_y8.out 2
  have z_n : (w.heap.size + 1) < y8.heap.size := (Array.getElem?_eq_some_iff.1 BX_n_y8.out).1
  go_wp2_with fail
  obtain ⟨Y8, hX⟩ : ∃ Y8, y8.alloc (.cells #[.int .i64 qn.room, .string qn.fast, .slice A8 qn.acts.length c8] 24) = Y8 := ⟨_, rfl⟩
  have hbx : Below y8.heap.size y8 Y8 := by rw [← hX]; exact (Below.refl _ _).alloc (Nat.le_refl _) _
  clear e_r0 e_r1 e_r2 z_r e_n0 e_n1 e_n2 z_n
  have HB_Y8 := Lib.hid (HB_y8.out.trans (hbx.mono HB_y8.out.size))
  have BX_r_Y8 := Lib.hid ((hbx.block _ (Array.getElem?_eq_some_iff.1 BX_r_y8.out).1).trans BX_r_y8.out)
  have BX_n_Y8 := Lib.hid ((hbx.block _ (Array.getElem?_eq_some_iff.1 BX_n_y8.out).1).trans BX_n_y8.out)
  have BX_a1_Y8 := Lib.hid ((hbx.block _ (Array.getElem?_eq_some_iff.1 BX_a1_y8.out).1).trans BX_a1_y8.out)
  have BX_a2_Y8 := Lib.hid ((hbx.block _ (Array.getElem?_eq_some_iff.1 BX_a2_y8.out).1).trans BX_a2_y8.out)
  have BX_l1_Y8 := Lib.hid ((hbx.block _ (Array.getElem?_eq_some_iff.1 BX_l1_y8.out).1).trans BX_l1_y8.out)
  have BX_l2_Y8 := Lib.hid ((hbx.block _ (Array.getElem?_eq_some_iff.1 BX_l2_y8.out).1).trans BX_l2_y8.out)
  have BX_h1_Y8 := Lib.hid ((hbx.block _ (Array.getElem?_eq_some_iff.1 BX_h1_y8.out).1).trans BX_h1_y8.out)
  have BX_h2_Y8 := Lib.hid ((hbx.block _ (Array.getElem?_eq_some_iff.1 BX_h2_y8.out).1).trans BX_h2_y8.out)
  have BX_n1_Y8 := Lib.hid ((hbx.block _ (Array.getElem?_eq_some_iff.1 BX_n1_y8.out).1).trans BX_n1_y8.out)
  have HA_v_Y8 := Lib.hid ((HA_v_y8.out.below hbx).mono (B' := Y8.heap.size) hbx.size)
  have HA_l_Y8 := Lib.hid ((HA_l_y8.out.below hbx).mono (B' := Y8.heap.size) hbx.size)
  have HA_a1_Y8 := Lib.hid ((HA_a1_y8.out.below hbx).mono (B' := Y8.heap.size) hbx.size)
  have HA_a2_Y8 := Lib.hid ((HA_a2_y8.out.below hbx).mono (B' := Y8.heap.size) hbx.size)
  have HA_l1_Y8 := Lib.hid ((HA_l1_y8.out.below hbx).mono (B' := Y8.heap.size) hbx.size)
  have HA_l2_Y8 := Lib.hid ((HA_l2_y8.out.below hbx).mono (B' := Y8.heap.size) hbx.size)
  have HA_h1_Y8 := Lib.hid ((HA_h1_y8.out.below hbx).mono (B' := Y8.heap.size) hbx.size)
  have HA_h2_Y8 := Lib.hid ((HA_h2_y8.out.below hbx).mono (B' := Y8.heap.size) hbx.size)
  have HA_n1_Y8 := Lib.hid ((HA_n1_y8.out.below hbx).mono (B' := Y8.heap.size) hbx.size)
  have HA_n2_Y8 := Lib.hid ((HA_n2_y8.out.below hbx).mono (B' := Y8.heap.size) hbx.size)
  have HG_Y8 := Lib.hid (hG.below HB_Y8.out h5)
  clear HB_y8 HG_y8 BX_r_y8 BX_n_y8 BX_a1_y8 BX_a2_y8 BX_l1_y8 BX_l2_y8 BX_h1_y8 BX_h2_y8 BX_n1_y8 HA_v_y8 HA_l_y8 HA_a1_y8 HA_a2_y8 HA_l1_y8 HA_l2_y8 HA_h1_y8 HA_h2_y8 HA_n1_y8 HA_n2_y8 
  have BX_n2_Y8 : Hid (Y8.heap[y8.heap.size]? = some (.cells #[.int .i64 qn.room, .string qn.fast, .slice A8 qn.acts.length c8] 24 (0, 0))) := by rw [← hX]; exact heap_alloc_new _ _
  clear hbx
  rw [hX]
  clear hX
  have e_r0 : Y8.cell? ⟨w.heap.size, 0, none⟩ = some (.int .i64 r.room) := Lib.cell_of_heap BX_r_Y8.out 0
  have e_r1 : Y8.cell? ⟨w.heap.size, 1, none⟩ = some (.string r.fast) := Lib.cell_of_heap BX_r_Y8.out 1
  have e_r2 : Y8.cell? ⟨w.heap.size, 2, none⟩ = some (.slice Av r.acts.length cv) := Lib.cell_of_heap BX_r_Y8.out 2
  have z_r : w.heap.size < Y8.heap.size := (Array.getElem?_eq_some_iff.1 BX_r_Y8.out).1
  have e_n0 : Y8.cell? ⟨(w.heap.size + 1), 0, none⟩ = some (.int .i64 a) := Lib.cell_of_heap BX_n_Y8.out 0
  have e_n1 : Y8.cell? ⟨(w.heap.size + 1), 1, none⟩ = some (.int .i64 b) := Lib.cell_of_heap BX_n_Y8.out 1
  have e_n2 : Y8.cell? ⟨(w.heap.size + 1), 2, none⟩ = some (.int .i64 c) := Lib.cell_of_heap BX_n_Y8.out 2
  have z_n : (w.heap.size + 1) < Y8.heap.size := (Array.getElem?_eq_some_iff.1 BX_n_Y8.out).1
  try dsimp only
  go_wp2_with fail
  have e_a10 : Y8.cell? ⟨y1.heap.size, 0, none⟩ = some (.int .i64 qa.room) := Lib.cell_of_heap BX_a1_Y8.out 0
  have e_a11 : Y8.cell? ⟨y1.heap.size, 1, none⟩ = some (.string qa.fast) := Lib.cell_of_heap BX_a1_Y8.out 1
  have e_a12 : Y8.cell? ⟨y1.heap.size, 2, none⟩ = some (.slice A1 qa.acts.length c1) := Lib.cell_of_heap BX_a1_Y8.out 2
  have z_a1 : y1.heap.size < Y8.heap.size := (Array.getElem?_eq_some_iff.1 BX_a1_Y8.out).1
  have e_a20 : Y8.cell? ⟨y2.heap.size, 0, none⟩ = some (.int .i64 qa.room) := Lib.cell_of_heap BX_a2_Y8.out 0
  have e_a21 : Y8.cell? ⟨y2.heap.size, 1, none⟩ = some (.string qa.fast) := Lib.cell_of_heap BX_a2_Y8.out 1
  have e_a22 : Y8.cell? ⟨y2.heap.size, 2, none⟩ = some (.slice A2 qa.acts.length c2) := Lib.cell_of_heap BX_a2_Y8.out 2
  have z_a2 : y2.heap.size < Y8.heap.size := (Array.getElem?_eq_some_iff.1 BX_a2_Y8.out).1
  have e_l10 : Y8.cell? ⟨y3.heap.size, 0, none⟩ = some (.int .i64 ql.room) := Lib.cell_of_heap BX_l1_Y8.out 0
  have e_l11 : Y8.cell? ⟨y3.heap.size, 1, none⟩ = some (.string ql.fast) := Lib.cell_of_heap BX_l1_Y8.out 1
  have e_l12 : Y8.cell? ⟨y3.heap.size, 2, none⟩ = some (.slice A3 ql.acts.length c3) := Lib.cell_of_heap BX_l1_Y8.out 2
  have z_l1 : y3.heap.size < Y8.heap.size := (Array.getElem?_eq_some_iff.1 BX_l1_Y8.out).1
  have e_l20 : Y8.cell? ⟨y4.heap.size, 0, none⟩ = some (.int .i64 ql.room) := Lib.cell_of_heap BX_l2_Y8.out 0
  have e_l21 : Y8.cell? ⟨y4.heap.size, 1, none⟩ = some (.string ql.fast) := Lib.cell_of_heap BX_l2_Y8.out 1
  have e_l22 : Y8.cell? ⟨y4.heap.size, 2, none⟩ = some (.slice A4 ql.acts.length c4) := Lib.cell_of_heap BX_l2_Y8.out 2
  have z_l2 : y4.heap.size < Y8.heap.size := (Array.getElem?_eq_some_iff.1 BX_l2_Y8.out).1
  have e_h10 : Y8.cell? ⟨y5.heap.size, 0, none⟩ = some (.int .i64 qh.room) := Lib.cell_of_heap BX_h1_Y8.out 0
  have e_h11 : Y8.cell? ⟨y5.heap.size, 1, none⟩ = some (.string qh.fast) := Lib.cell_of_heap BX_h1_Y8.out 1
  have e_h12 : Y8.cell? ⟨y5.heap.size, 2, none⟩ = some (.slice A5 qh.acts.length c5) := Lib.cell_of_heap BX_h1_Y8.out 2
  have z_h1 : y5.heap.size < Y8.heap.size := (Array.getElem?_eq_some_iff.1 BX_h1_Y8.out).1
  have e_h20 : Y8.cell? ⟨y6.heap.size, 0, none⟩ = some (.int .i64 qh.room) := Lib.cell_of_heap BX_h2_Y8.out 0
  have e_h21 : Y8.cell? ⟨y6.heap.size, 1, none⟩ = some (.string qh.fast) := Lib.cell_of_heap BX_h2_Y8.out 1
  have e_h22 : Y8.cell? ⟨y6.heap.size, 2, none⟩ = some (.slice A6 qh.acts.length c6) := Lib.cell_of_heap BX_h2_Y8.out 2
  have z_h2 : y6.heap.size < Y8.heap.size := (Array.getElem?_eq_some_iff.1 BX_h2_Y8.out).1
  have e_n10 : Y8.cell? ⟨y7.heap.size, 0, none⟩ = some (.int .i64 qn.room) := Lib.cell_of_heap BX_n1_Y8.out 0
  have e_n11 : Y8.cell? ⟨y7.heap.size, 1, none⟩ = some (.string qn.fast) := Lib.cell_of_heap BX_n1_Y8.out 1
  have e_n12 : Y8.cell? ⟨y7.heap.size, 2, none⟩ = some (.slice A7 qn.acts.length c7) := Lib.cell_of_heap BX_n1_Y8.out 2
  have z_n1 : y7.heap.size < Y8.heap.size := (Array.getElem?_eq_some_iff.1 BX_n1_Y8.out).1
  have e_n20 : Y8.cell? ⟨y8.heap.size, 0, none⟩ = some (.int .i64 qn.room) := Lib.cell_of_heap BX_n2_Y8.out 0
  have e_n21 : Y8.cell? ⟨y8.heap.size, 1, none⟩ = some (.string qn.fast) := Lib.cell_of_heap BX_n2_Y8.out 1
  have e_n22 : Y8.cell? ⟨y8.heap.size, 2, none⟩ = some (.slice A8 qn.acts.length c8) := Lib.cell_of_heap BX_n2_Y8.out 2
  have z_n2 : y8.heap.size < Y8.heap.size := (Array.getElem?_eq_some_iff.1 BX_n2_Y8.out).1
  have q_a10 : ∀ z : Later Y8, z.w.cell? ⟨y1.heap.size, 0, none⟩ = some (.int .i64 qa.room) := fun z => z.cell e_a10 z_a1
  have q_a11 : ∀ z : Later Y8, z.w.cell? ⟨y1.heap.size, 1, none⟩ = some (.string qa.fast) := fun z => z.cell e_a11 z_a1
  have q_a12 : ∀ z : Later Y8, z.w.cell? ⟨y1.heap.size, 2, none⟩ = some (.slice A1 qa.acts.length c1) := fun z => z.cell e_a12 z_a1
  have q_a20 : ∀ z : Later Y8, z.w.cell? ⟨y2.heap.size, 0, none⟩ = some (.int .i64 qa.room) := fun z => z.cell e_a20 z_a2
  have q_a21 : ∀ z : Later Y8, z.w.cell? ⟨y2.heap.size, 1, none⟩ = some (.string qa.fast) := fun z => z.cell e_a21 z_a2
  have q_a22 : ∀ z : Later Y8, z.w.cell? ⟨y2.heap.size, 2, none⟩ = some (.slice A2 qa.acts.length c2) := fun z => z.cell e_a22 z_a2
  have q_l10 : ∀ z : Later Y8, z.w.cell? ⟨y3.heap.size, 0, none⟩ = some (.int .i64 ql.room) := fun z => z.cell e_l10 z_l1
  have q_l11 : ∀ z : Later Y8, z.w.cell? ⟨y3.heap.size, 1, none⟩ = some (.string ql.fast) := fun z => z.cell e_l11 z_l1
  have q_l12 : ∀ z : Later Y8, z.w.cell? ⟨y3.heap.size, 2, none⟩ = some (.slice A3 ql.acts.length c3) := fun z => z.cell e_l12 z_l1
  have q_l20 : ∀ z : Later Y8, z.w.cell? ⟨y4.heap.size, 0, none⟩ = some (.int .i64 ql.room) := fun z => z.cell e_l20 z_l2
  have q_l21 : ∀ z : Later Y8, z.w.cell? ⟨y4.heap.size, 1, none⟩ = some (.string ql.fast) := fun z => z.cell e_l21 z_l2
  have q_l22 : ∀ z : Later Y8, z.w.cell? ⟨y4.heap.size, 2, none⟩ = some (.slice A4 ql.acts.length c4) := fun z => z.cell e_l22 z_l2
  have q_h10 : ∀ z : Later Y8, z.w.cell? ⟨y5.heap.size, 0, none⟩ = some (.int .i64 qh.room) := fun z => z.cell e_h10 z_h1
  have q_h11 : ∀ z : Later Y8, z.w.cell? ⟨y5.heap.size, 1, none⟩ = some (.string qh.fast) := fun z => z.cell e_h11 z_h1
  have q_h12 : ∀ z : Later Y8, z.w.cell? ⟨y5.heap.size, 2, none⟩ = some (.slice A5 qh.acts.length c5) := fun z => z.cell e_h12 z_h1
  have q_h20 : ∀ z : Later Y8, z.w.cell? ⟨y6.heap.size, 0, none⟩ = some (.int .i64 qh.room) := fun z => z.cell e_h20 z_h2
  have q_h21 : ∀ z : Later Y8, z.w.cell? ⟨y6.heap.size, 1, none⟩ = some (.string qh.fast) := fun z => z.cell e_h21 z_h2
  have q_h22 : ∀ z : Later Y8, z.w.cell? ⟨y6.heap.size, 2, none⟩ = some (.slice A6 qh.acts.length c6) := fun z => z.cell e_h22 z_h2
  have q_n10 : ∀ z : Later Y8, z.w.cell? ⟨y7.heap.size, 0, none⟩ = some (.int .i64 qn.room) := fun z => z.cell e_n10 z_n1
  have q_n11 : ∀ z : Later Y8, z.w.cell? ⟨y7.heap.size, 1, none⟩ = some (.string qn.fast) := fun z => z.cell e_n11 z_n1
  have q_n12 : ∀ z : Later Y8, z.w.cell? ⟨y7.heap.size, 2, none⟩ = some (.slice A7 qn.acts.length c7) := fun z => z.cell e_n12 z_n1
  have q_n20 : ∀ z : Later Y8, z.w.cell? ⟨y8.heap.size, 0, none⟩ = some (.int .i64 qn.room) := fun z => z.cell e_n20 z_n2
  have q_n21 : ∀ z : Later Y8, z.w.cell? ⟨y8.heap.size, 1, none⟩ = some (.string qn.fast) := fun z => z.cell e_n21 z_n2
  have q_n22 : ∀ z : Later Y8, z.w.cell? ⟨y8.heap.size, 2, none⟩ = some (.slice A8 qn.acts.length c8) := fun z => z.cell e_n22 z_n2
  have q_r0 : ∀ z : Later Y8, z.w.cell? ⟨w.heap.size, 0, none⟩ = some (.int .i64 r.room) := fun z => z.cell e_r0 z_r
  have q_r1 : ∀ z : Later Y8, z.w.cell? ⟨w.heap.size, 1, none⟩ = some (.string r.fast) := fun z => z.cell e_r1 z_r
  have q_r2 : ∀ z : Later Y8, z.w.cell? ⟨w.heap.size, 2, none⟩ = some (.slice Av r.acts.length cv) := fun z => z.cell e_r2 z_r
  have HF_v := Lib.hid (fun (z : Later Y8) => (HA_v_Y8.out.below z.low).mono (B' := z.w.heap.size) z.low.size)
  have HF_l := Lib.hid (fun (z : Later Y8) => (HA_l_Y8.out.below z.low).mono (B' := z.w.heap.size) z.low.size)
  have HF_a1 := Lib.hid (fun (z : Later Y8) => (HA_a1_Y8.out.below z.low).mono (B' := z.w.heap.size) z.low.size)
  have HF_a2 := Lib.hid (fun (z : Later Y8) => (HA_a2_Y8.out.below z.low).mono (B' := z.w.heap.size) z.low.size)
  have HF_l1 := Lib.hid (fun (z : Later Y8) => (HA_l1_Y8.out.below z.low).mono (B' := z.w.heap.size) z.low.size)
  have HF_l2 := Lib.hid (fun (z : Later Y8) => (HA_l2_Y8.out.below z.low).mono (B' := z.w.heap.size) z.low.size)
  have HF_h1 := Lib.hid (fun (z : Later Y8) => (HA_h1_Y8.out.below z.low).mono (B' := z.w.heap.size) z.low.size)
  have HF_h2 := Lib.hid (fun (z : Later Y8) => (HA_h2_Y8.out.below z.low).mono (B' := z.w.heap.size) z.low.size)
  have HF_n1 := Lib.hid (fun (z : Later Y8) => (HA_n1_Y8.out.below z.low).mono (B' := z.w.heap.size) z.low.size)
  have HF_n2 := Lib.hid (fun (z : Later Y8) => (HA_n2_Y8.out.below z.low).mono (B' := z.w.heap.size) z.low.size)
  refine wp_region_later Y8 (by kernel_rfl) (by kernel_rfl) (Below.refl _ _) ?_
  clear e_a10 e_a11 e_a12 z_a1 e_a20 e_a21 e_a22 z_a2 e_l10 e_l11 e_l12 z_l1 e_l20 e_l21 e_l22 z_l2 e_h10 e_h11 e_h12 z_h1 e_h20 e_h21 e_h22 z_h2 e_n10 e_n11 e_n12 z_n1 e_n20 e_n21 e_n22 z_n2 e_r0 e_r1 e_r2 z_r
  repeat (go_big_quiet_step (fail))
  go_big_quiet_step ((refine Later.call (rsame_yes qa _ _ _ (HF_a1.out _) (HF_a2.out _))))
  repeat (go_big_quiet_step (fail))
  go_big_quiet_step ((refine Later.call (rsame_yes ql _ _ _ (HF_l1.out _) (HF_l2.out _))))
  repeat (go_big_quiet_step (fail))
  go_big_quiet_step ((refine Later.call (rsame_yes qh _ _ _ (HF_h1.out _) (HF_h2.out _))))
  repeat (go_big_quiet_step (fail))
  go_big_quiet_step ((refine Later.call (rsame_yes qn _ _ _ (HF_n1.out _) (HF_n2.out _))))
  repeat (go_big_quiet_step (fail))
  go_big_quiet_step ((refine Later.call (check_any r.room r.fast _ r.acts _ (HF_v.out _))))
  repeat (go_big_quiet_step (fail))
  go_big_quiet_step ((refine Later.call (rcheck_any r.room r.fast _ r.acts _ (HF_v.out _))))
  repeat (go_big_quiet_step (fail))
  refine wpQuiet_nil ?_
  rintro v9 ⟨⟨v9', hb9⟩, rfl⟩
  have HB_v9 := Lib.hid (HB_Y8.out.trans (hb9.mono HB_Y8.out.size))
  have BX_r_v9 := Lib.hid ((hb9.block _ (Array.getElem?_eq_some_iff.1 BX_r_Y8.out).1).trans BX_r_Y8.out)
  have BX_n_v9 := Lib.hid ((hb9.block _ (Array.getElem?_eq_some_iff.1 BX_n_Y8.out).1).trans BX_n_Y8.out)
  have BX_a1_v9 := Lib.hid ((hb9.block _ (Array.getElem?_eq_some_iff.1 BX_a1_Y8.out).1).trans BX_a1_Y8.out)
  have BX_a2_v9 := Lib.hid ((hb9.block _ (Array.getElem?_eq_some_iff.1 BX_a2_Y8.out).1).trans BX_a2_Y8.out)
  have BX_l1_v9 := Lib.hid ((hb9.block _ (Array.getElem?_eq_some_iff.1 BX_l1_Y8.out).1).trans BX_l1_Y8.out)
  have BX_l2_v9 := Lib.hid ((hb9.block _ (Array.getElem?_eq_some_iff.1 BX_l2_Y8.out).1).trans BX_l2_Y8.out)
  have BX_h1_v9 := Lib.hid ((hb9.block _ (Array.getElem?_eq_some_iff.1 BX_h1_Y8.out).1).trans BX_h1_Y8.out)
  have BX_h2_v9 := Lib.hid ((hb9.block _ (Array.getElem?_eq_some_iff.1 BX_h2_Y8.out).1).trans BX_h2_Y8.out)
  have BX_n1_v9 := Lib.hid ((hb9.block _ (Array.getElem?_eq_some_iff.1 BX_n1_Y8.out).1).trans BX_n1_Y8.out)
  have BX_n2_v9 := Lib.hid ((hb9.block _ (Array.getElem?_eq_some_iff.1 BX_n2_Y8.out).1).trans BX_n2_Y8.out)
  have HA_v_v9 := Lib.hid ((HA_v_Y8.out.below hb9).mono (B' := v9.heap.size) hb9.size)
  have HA_l_v9 := Lib.hid ((HA_l_Y8.out.below hb9).mono (B' := v9.heap.size) hb9.size)
  have HA_a1_v9 := Lib.hid ((HA_a1_Y8.out.below hb9).mono (B' := v9.heap.size) hb9.size)
  have HA_a2_v9 := Lib.hid ((HA_a2_Y8.out.below hb9).mono (B' := v9.heap.size) hb9.size)
  have HA_l1_v9 := Lib.hid ((HA_l1_Y8.out.below hb9).mono (B' := v9.heap.size) hb9.size)
  have HA_l2_v9 := Lib.hid ((HA_l2_Y8.out.below hb9).mono (B' := v9.heap.size) hb9.size)
  have HA_h1_v9 := Lib.hid ((HA_h1_Y8.out.below hb9).mono (B' := v9.heap.size) hb9.size)
  have HA_h2_v9 := Lib.hid ((HA_h2_Y8.out.below hb9).mono (B' := v9.heap.size) hb9.size)
  have HA_n1_v9 := Lib.hid ((HA_n1_Y8.out.below hb9).mono (B' := v9.heap.size) hb9.size)
  have HA_n2_v9 := Lib.hid ((HA_n2_Y8.out.below hb9).mono (B' := v9.heap.size) hb9.size)
  have HG_v9 := Lib.hid (hG.below HB_v9.out h5)
  clear HB_Y8 HG_Y8 BX_r_Y8 BX_n_Y8 BX_a1_Y8 BX_a2_Y8 BX_l1_Y8 BX_l2_Y8 BX_h1_Y8 BX_h2_Y8 BX_n1_Y8 BX_n2_Y8 HA_v_Y8 HA_l_Y8 HA_a1_Y8 HA_a2_Y8 HA_l1_Y8 HA_l2_Y8 HA_h1_Y8 HA_h2_Y8 HA_n1_Y8 HA_n2_Y8 
  clear hb9
  clear q_a10 q_a11 q_a12 q_a20 q_a21 q_a22 q_l10 q_l11 q_l12 q_l20 q_l21 q_l22 q_h10 q_h11 q_h12 q_h20 q_h21 q_h22 q_n10 q_n11 q_n12 q_n20 q_n21 q_n22 q_r0 q_r1 q_r2
  clear HF_v HF_l HF_a1 HF_a2 HF_l1 HF_l2 HF_h1 HF_h2 HF_n1 HF_n2
  rcases hcl.out with ⟨rfl, rfl⟩ | rfl
  · have e_r0 : v9.cell? ⟨w.heap.size, 0, none⟩ = some (.int .i64 r.room) := Lib.cell_of_heap BX_r_v9.out 0
    have e_r1 : v9.cell? ⟨w.heap.size, 1, none⟩ = some (.string r.fast) := Lib.cell_of_heap BX_r_v9.out 1
    have e_r2 : v9.cell? ⟨w.heap.size, 2, none⟩ = some (.slice Av r.acts.length cv) := Lib.cell_of_heap BX_r_v9.out 2
    have z_r : w.heap.size < v9.heap.size := (Array.getElem?_eq_some_iff.1 BX_r_v9.out).1
    have e_n0 : v9.cell? ⟨(w.heap.size + 1), 0, none⟩ = some (.int .i64 a) := Lib.cell_of_heap BX_n_v9.out 0
    have e_n1 : v9.cell? ⟨(w.heap.size + 1), 1, none⟩ = some (.int .i64 b) := Lib.cell_of_heap BX_n_v9.out 1
    have e_n2 : v9.cell? ⟨(w.heap.size + 1), 2, none⟩ = some (.int .i64 c) := Lib.cell_of_heap BX_n_v9.out 2
    have z_n : (w.heap.size + 1) < v9.heap.size := (Array.getElem?_eq_some_iff.1 BX_n_v9.out).1
    have e_l10 : v9.cell? ⟨y3.heap.size, 0, none⟩ = some (.int .i64 ql.room) := Lib.cell_of_heap BX_l1_v9.out 0
    have e_l11 : v9.cell? ⟨y3.heap.size, 1, none⟩ = some (.string ql.fast) := Lib.cell_of_heap BX_l1_v9.out 1
    have e_l12 : v9.cell? ⟨y3.heap.size, 2, none⟩ = some (.slice A3 ql.acts.length c3) := Lib.cell_of_heap BX_l1_v9.out 2
    have z_l1 : y3.heap.size < v9.heap.size := (Array.getElem?_eq_some_iff.1 BX_l1_v9.out).1
    go_wp2_with fail
    refine (lose_ret ql _ c a b _ HA_l1_v9.out).mono ?_
    rintro e u9p ⟨A9, c9, ha, he, hb⟩
    rw [hq2.out.1] at ha
    rw [hq2.out.1, hq2.out.2] at he
    subst he
    clear e_n0 e_n1 e_n2 z_n e_r0 e_r1 e_r2 z_r e_l10 e_l11 e_l12 z_l1
    have HB_u9p := Lib.hid (HB_v9.out.trans (hb.mono HB_v9.out.size))
    have BX_r_u9p := Lib.hid ((hb.block _ (Array.getElem?_eq_some_iff.1 BX_r_v9.out).1).trans BX_r_v9.out)
    have BX_n_u9p := Lib.hid ((hb.block _ (Array.getElem?_eq_some_iff.1 BX_n_v9.out).1).trans BX_n_v9.out)
    have BX_a1_u9p := Lib.hid ((hb.block _ (Array.getElem?_eq_some_iff.1 BX_a1_v9.out).1).trans BX_a1_v9.out)
    have BX_a2_u9p := Lib.hid ((hb.block _ (Array.getElem?_eq_some_iff.1 BX_a2_v9.out).1).trans BX_a2_v9.out)
    have BX_l1_u9p := Lib.hid ((hb.block _ (Array.getElem?_eq_some_iff.1 BX_l1_v9.out).1).trans BX_l1_v9.out)
    have BX_l2_u9p := Lib.hid ((hb.block _ (Array.getElem?_eq_some_iff.1 BX_l2_v9.out).1).trans BX_l2_v9.out)
    have BX_h1_u9p := Lib.hid ((hb.block _ (Array.getElem?_eq_some_iff.1 BX_h1_v9.out).1).trans BX_h1_v9.out)
    have BX_h2_u9p := Lib.hid ((hb.block _ (Array.getElem?_eq_some_iff.1 BX_h2_v9.out).1).trans BX_h2_v9.out)
    have BX_n1_u9p := Lib.hid ((hb.block _ (Array.getElem?_eq_some_iff.1 BX_n1_v9.out).1).trans BX_n1_v9.out)
    have BX_n2_u9p := Lib.hid ((hb.block _ (Array.getElem?_eq_some_iff.1 BX_n2_v9.out).1).trans BX_n2_v9.out)
    have HA_v_u9p := Lib.hid ((HA_v_v9.out.below hb).mono (B' := u9p.heap.size) hb.size)
    have HA_l_u9p := Lib.hid ((HA_l_v9.out.below hb).mono (B' := u9p.heap.size) hb.size)
    have HA_a1_u9p := Lib.hid ((HA_a1_v9.out.below hb).mono (B' := u9p.heap.size) hb.size)
    have HA_a2_u9p := Lib.hid ((HA_a2_v9.out.below hb).mono (B' := u9p.heap.size) hb.size)
    have HA_l1_u9p := Lib.hid ((HA_l1_v9.out.below hb).mono (B' := u9p.heap.size) hb.size)
    have HA_l2_u9p := Lib.hid ((HA_l2_v9.out.below hb).mono (B' := u9p.heap.size) hb.size)
    have HA_h1_u9p := Lib.hid ((HA_h1_v9.out.below hb).mono (B' := u9p.heap.size) hb.size)
    have HA_h2_u9p := Lib.hid ((HA_h2_v9.out.below hb).mono (B' := u9p.heap.size) hb.size)
    have HA_n1_u9p := Lib.hid ((HA_n1_v9.out.below hb).mono (B' := u9p.heap.size) hb.size)
    have HA_n2_u9p := Lib.hid ((HA_n2_v9.out.below hb).mono (B' := u9p.heap.size) hb.size)
    have HG_u9p := Lib.hid (hG.below HB_u9p.out h5)
    clear HB_v9 HG_v9 BX_r_v9 BX_n_v9 BX_a1_v9 BX_a2_v9 BX_l1_v9 BX_l2_v9 BX_h1_v9 BX_h2_v9 BX_n1_v9 BX_n2_v9 HA_v_v9 HA_l_v9 HA_a1_v9 HA_a2_v9 HA_l1_v9 HA_l2_v9 HA_h1_v9 HA_h2_v9 HA_n1_v9 HA_n2_v9 
    clear hb
    have HA_g1_u9p := ha
    clear ha
    have e_r0 : u9p.cell? ⟨w.heap.size, 0, none⟩ = some (.int .i64 r.room) := Lib.cell_of_heap BX_r_u9p.out 0
    have e_r1 : u9p.cell? ⟨w.heap.size, 1, none⟩ = some (.string r.fast) := Lib.cell_of_heap BX_r_u9p.out 1
    have e_r2 : u9p.cell? ⟨w.heap.size, 2, none⟩ = some (.slice Av r.acts.length cv) := Lib.cell_of_heap BX_r_u9p.out 2
    have z_r : w.heap.size < u9p.heap.size := (Array.getElem?_eq_some_iff.1 BX_r_u9p.out).1
    have e_n0 : u9p.cell? ⟨(w.heap.size + 1), 0, none⟩ = some (.int .i64 a) := Lib.cell_of_heap BX_n_u9p.out 0
    have e_n1 : u9p.cell? ⟨(w.heap.size + 1), 1, none⟩ = some (.int .i64 b) := Lib.cell_of_heap BX_n_u9p.out 1
    have e_n2 : u9p.cell? ⟨(w.heap.size + 1), 2, none⟩ = some (.int .i64 c) := Lib.cell_of_heap BX_n_u9p.out 2
    have z_n : (w.heap.size + 1) < u9p.heap.size := (Array.getElem?_eq_some_iff.1 BX_n_u9p.out).1
    have e_l10 : u9p.cell? ⟨y3.heap.size, 0, none⟩ = some (.int .i64 ql.room) := Lib.cell_of_heap BX_l1_u9p.out 0
    have e_l11 : u9p.cell? ⟨y3.heap.size, 1, none⟩ = some (.string ql.fast) := Lib.cell_of_heap BX_l1_u9p.out 1
    have e_l12 : u9p.cell? ⟨y3.heap.size, 2, none⟩ = some (.slice A3 ql.acts.length c3) := Lib.cell_of_heap BX_l1_u9p.out 2
    have z_l1 : y3.heap.size < u9p.heap.size := (Array.getElem?_eq_some_iff.1 BX_l1_u9p.out).1
    go_wp2_with fail
    obtain ⟨U9p, hX⟩ : ∃ U9p, u9p.alloc (.cells #[.int .i64 ql.room, .string ql.fast, .slice A9 ql.acts.length c9] 24) = U9p := ⟨_, rfl⟩
    have hbx : Below u9p.heap.size u9p U9p := by rw [← hX]; exact (Below.refl _ _).alloc (Nat.le_refl _) _
    clear e_r0 e_r1 e_r2 z_r e_n0 e_n1 e_n2 z_n e_l10 e_l11 e_l12 z_l1
    have HB_U9p := Lib.hid (HB_u9p.out.trans (hbx.mono HB_u9p.out.size))
    have BX_r_U9p := Lib.hid ((hbx.block _ (Array.getElem?_eq_some_iff.1 BX_r_u9p.out).1).trans BX_r_u9p.out)
    have BX_n_U9p := Lib.hid ((hbx.block _ (Array.getElem?_eq_some_iff.1 BX_n_u9p.out).1).trans BX_n_u9p.out)
    have BX_a1_U9p := Lib.hid ((hbx.block _ (Array.getElem?_eq_some_iff.1 BX_a1_u9p.out).1).trans BX_a1_u9p.out)
    have BX_a2_U9p := Lib.hid ((hbx.block _ (Array.getElem?_eq_some_iff.1 BX_a2_u9p.out).1).trans BX_a2_u9p.out)
    have BX_l1_U9p := Lib.hid ((hbx.block _ (Array.getElem?_eq_some_iff.1 BX_l1_u9p.out).1).trans BX_l1_u9p.out)
    have BX_l2_U9p := Lib.hid ((hbx.block _ (Array.getElem?_eq_some_iff.1 BX_l2_u9p.out).1).trans BX_l2_u9p.out)
    have BX_h1_U9p := Lib.hid ((hbx.block _ (Array.getElem?_eq_some_iff.1 BX_h1_u9p.out).1).trans BX_h1_u9p.out)
    have BX_h2_U9p := Lib.hid ((hbx.block _ (Array.getElem?_eq_some_iff.1 BX_h2_u9p.out).1).trans BX_h2_u9p.out)
    have BX_n1_U9p := Lib.hid ((hbx.block _ (Array.getElem?_eq_some_iff.1 BX_n1_u9p.out).1).trans BX_n1_u9p.out)
    have BX_n2_U9p := Lib.hid ((hbx.block _ (Array.getElem?_eq_some_iff.1 BX_n2_u9p.out).1).trans BX_n2_u9p.out)
    have HA_v_U9p := Lib.hid ((HA_v_u9p.out.below hbx).mono (B' := U9p.heap.size) hbx.size)
    have HA_l_U9p := Lib.hid ((HA_l_u9p.out.below hbx).mono (B' := U9p.heap.size) hbx.size)
    have HA_a1_U9p := Lib.hid ((HA_a1_u9p.out.below hbx).mono (B' := U9p.heap.size) hbx.size)
    have HA_a2_U9p := Lib.hid ((HA_a2_u9p.out.below hbx).mono (B' := U9p.heap.size) hbx.size)
    have HA_l1_U9p := Lib.hid ((HA_l1_u9p.out.below hbx).mono (B' := U9p.heap.size) hbx.size)
    have HA_l2_U9p := Lib.hid ((HA_l2_u9p.out.below hbx).mono (B' := U9p.heap.size) hbx.size)
    have HA_h1_U9p := Lib.hid ((HA_h1_u9p.out.below hbx).mono (B' := U9p.heap.size) hbx.size)
    have HA_h2_U9p := Lib.hid ((HA_h2_u9p.out.below hbx).mono (B' := U9p.heap.size) hbx.size)
    have HA_n1_U9p := Lib.hid ((HA_n1_u9p.out.below hbx).mono (B' := U9p.heap.size) hbx.size)
    have HA_n2_U9p := Lib.hid ((HA_n2_u9p.out.below hbx).mono (B' := U9p.heap.size) hbx.size)
    have HA_g1_U9p := Lib.hid ((HA_g1_u9p.out.below hbx).mono (B' := U9p.heap.size) hbx.size)
    have HG_U9p := Lib.hid (hG.below HB_U9p.out h5)
    clear HB_u9p HG_u9p BX_r_u9p BX_n_u9p BX_a1_u9p BX_a2_u9p BX_l1_u9p BX_l2_u9p BX_h1_u9p BX_h2_u9p BX_n1_u9p BX_n2_u9p HA_v_u9p HA_l_u9p HA_a1_u9p HA_a2_u9p HA_l1_u9p HA_l2_u9p HA_h1_u9p HA_h2_u9p HA_n1_u9p HA_n2_u9p HA_g1_u9p 
    have BX_g1_U9p : Hid (U9p.heap[u9p.heap.size]? = some (.cells #[.int .i64 ql.room, .string ql.fast, .slice A9 ql.acts.length c9] 24 (0, 0))) := by rw [← hX]; exact heap_alloc_new _ _
    clear hbx
    rw [hX]
    clear hX
    try dsimp only
    refine (rsame_yes _ _ _ _ HA_g1_U9p.out HA_l1_U9p.out).mono ?_
    rintro e uap ⟨rfl, hb⟩
    have HB_uap := Lib.hid (HB_U9p.out.trans (hb.mono HB_U9p.out.size))
    have BX_r_uap := Lib.hid ((hb.block _ (Array.getElem?_eq_some_iff.1 BX_r_U9p.out).1).trans BX_r_U9p.out)
    have BX_n_uap := Lib.hid ((hb.block _ (Array.getElem?_eq_some_iff.1 BX_n_U9p.out).1).trans BX_n_U9p.out)
    have BX_a1_uap := Lib.hid ((hb.block _ (Array.getElem?_eq_some_iff.1 BX_a1_U9p.out).1).trans BX_a1_U9p.out)
    have BX_a2_uap := Lib.hid ((hb.block _ (Array.getElem?_eq_some_iff.1 BX_a2_U9p.out).1).trans BX_a2_U9p.out)
    have BX_l1_uap := Lib.hid ((hb.block _ (Array.getElem?_eq_some_iff.1 BX_l1_U9p.out).1).trans BX_l1_U9p.out)
    have BX_l2_uap := Lib.hid ((hb.block _ (Array.getElem?_eq_some_iff.1 BX_l2_U9p.out).1).trans BX_l2_U9p.out)
    have BX_h1_uap := Lib.hid ((hb.block _ (Array.getElem?_eq_some_iff.1 BX_h1_U9p.out).1).trans BX_h1_U9p.out)
    have BX_h2_uap := Lib.hid ((hb.block _ (Array.getElem?_eq_some_iff.1 BX_h2_U9p.out).1).trans BX_h2_U9p.out)
    have BX_n1_uap := Lib.hid ((hb.block _ (Array.getElem?_eq_some_iff.1 BX_n1_U9p.out).1).trans BX_n1_U9p.out)
    have BX_n2_uap := Lib.hid ((hb.block _ (Array.getElem?_eq_some_iff.1 BX_n2_U9p.out).1).trans BX_n2_U9p.out)
    have BX_g1_uap := Lib.hid ((hb.block _ (Array.getElem?_eq_some_iff.1 BX_g1_U9p.out).1).trans BX_g1_U9p.out)
    have HA_v_uap := Lib.hid ((HA_v_U9p.out.below hb).mono (B' := uap.heap.size) hb.size)
    have HA_l_uap := Lib.hid ((HA_l_U9p.out.below hb).mono (B' := uap.heap.size) hb.size)
    have HA_a1_uap := Lib.hid ((HA_a1_U9p.out.below hb).mono (B' := uap.heap.size) hb.size)
    have HA_a2_uap := Lib.hid ((HA_a2_U9p.out.below hb).mono (B' := uap.heap.size) hb.size)
    have HA_l1_uap := Lib.hid ((HA_l1_U9p.out.below hb).mono (B' := uap.heap.size) hb.size)
    have HA_l2_uap := Lib.hid ((HA_l2_U9p.out.below hb).mono (B' := uap.heap.size) hb.size)
    have HA_h1_uap := Lib.hid ((HA_h1_U9p.out.below hb).mono (B' := uap.heap.size) hb.size)
    have HA_h2_uap := Lib.hid ((HA_h2_U9p.out.below hb).mono (B' := uap.heap.size) hb.size)
    have HA_n1_uap := Lib.hid ((HA_n1_U9p.out.below hb).mono (B' := uap.heap.size) hb.size)
    have HA_n2_uap := Lib.hid ((HA_n2_U9p.out.below hb).mono (B' := uap.heap.size) hb.size)
    have HA_g1_uap := Lib.hid ((HA_g1_U9p.out.below hb).mono (B' := uap.heap.size) hb.size)
    have HG_uap := Lib.hid (hG.below HB_uap.out h5)
    clear HB_U9p HG_U9p BX_r_U9p BX_n_U9p BX_a1_U9p BX_a2_U9p BX_l1_U9p BX_l2_U9p BX_h1_U9p BX_h2_U9p BX_n1_U9p BX_n2_U9p BX_g1_U9p HA_v_U9p HA_l_U9p HA_a1_U9p HA_a2_U9p HA_l1_U9p HA_l2_U9p HA_h1_U9p HA_h2_U9p HA_n1_U9p HA_n2_U9p HA_g1_U9p 
    clear hb
    have e_r0 : uap.cell? ⟨w.heap.size, 0, none⟩ = some (.int .i64 r.room) := Lib.cell_of_heap BX_r_uap.out 0
    have e_r1 : uap.cell? ⟨w.heap.size, 1, none⟩ = some (.string r.fast) := Lib.cell_of_heap BX_r_uap.out 1
    have e_r2 : uap.cell? ⟨w.heap.size, 2, none⟩ = some (.slice Av r.acts.length cv) := Lib.cell_of_heap BX_r_uap.out 2
    have z_r : w.heap.size < uap.heap.size := (Array.getElem?_eq_some_iff.1 BX_r_uap.out).1
    have e_n0 : uap.cell? ⟨(w.heap.size + 1), 0, none⟩ = some (.int .i64 a) := Lib.cell_of_heap BX_n_uap.out 0
    have e_n1 : uap.cell? ⟨(w.heap.size + 1), 1, none⟩ = some (.int .i64 b) := Lib.cell_of_heap BX_n_uap.out 1
    have e_n2 : uap.cell? ⟨(w.heap.size + 1), 2, none⟩ = some (.int .i64 c) := Lib.cell_of_heap BX_n_uap.out 2
    have z_n : (w.heap.size + 1) < uap.heap.size := (Array.getElem?_eq_some_iff.1 BX_n_uap.out).1
    go_wp2_with fail
    rw [HK2.out]
    go_cut [27, 28] from 168 to 175 (fun s1 s2 wx => ∃ (nb : Nat) (A2 : Option Addr) (c2 : Nat), s1 = .pointer (some ⟨nb, 0, none⟩) ∧ s2 = .int .i64 eu ∧ Hid (NextAt uap wx nb qu A2 c2))
    case first =>
      have hrun := HRH.out
      clear BX_r_uap BX_n_uap BX_a1_uap BX_a2_uap BX_l1_uap BX_l2_uap BX_h1_uap BX_h2_uap BX_n1_uap BX_n2_uap BX_g1_uap HA_a1_uap HA_a2_uap HA_l1_uap HA_l2_uap HA_h1_uap HA_h2_uap HA_n1_uap HA_n2_uap HA_g1_uap HB_uap HG_uap
      clear hqa hqh hqn hqv hq2 hca hcl HA HU HV HL HRH HRT HIT HX0 HK2 hG
      go_region_with (go_at_call 5; refine (act_ret r _ _ (l.take k) _ (acts_up HA_v_uap.out (by repeat (first | exact Below.refl _ _ | refine Below.drew ?_ | refine Below.alloc ?_ (by simp) _)) (by simp)) (HIH.out _ _ (acts_up HA_l_uap.out (by repeat (first | exact Below.refl _ _ | refine Below.drew ?_ | refine Below.alloc ?_ (by simp) _)) (by simp)))).mono ?_; rintro e w2 ⟨A2, c2, ha2, he, hb2⟩; rw [hqu.out.1] at ha2; rw [hqu.out.1, hqu.out.2] at he; subst he; have HB2 := Lib.hid hb2; try (have R2 := hb2.block uap.heap.size (by simp); have R3 : w2.heap[uap.heap.size]? = some (.cells #[.int .i64 0, .string ⟨#[]⟩, .slice none 0 0] 24 (0, 0)) := R2.trans (heap_alloc_new _ _); have g0 : w2.cell? ⟨uap.heap.size, 0, none⟩ = some (.int .i64 0) := Lib.cell_of_heap R3 0; have g1 : w2.cell? ⟨uap.heap.size, 1, none⟩ = some (.string ⟨#[]⟩) := Lib.cell_of_heap R3 1; have g2 : w2.cell? ⟨uap.heap.size, 2, none⟩ = some (.slice none 0 0) := Lib.cell_of_heap R3 2; have g3 := Lib.frozen_of_heap R3; have HR3 := Lib.hid R3; clear R2 R3); clear hb2)
      all_goals try dsimp only
      all_goals first
        | (have hN : NextAt uap (w2.alloc (.cells #[.int .i64 qu.room, .string qu.fast, .slice A2 qu.acts.length c2] 24)) w2.heap.size qu A2 c2 := next_new (by repeat (first | exact Below.refl _ _ | refine Below.drew ?_ | refine Below.alloc ?_ (by simp) _)) HB2.out ha2.out
           clear hrun
           go_wp2_with fail
           go_meet
           exact ⟨_, A2, c2, rfl, rfl, hN⟩)
        | (have hN : NextAt uap (((w2.setCell ⟨uap.heap.size, 0, none⟩ (.int .i64 qu.room)).setCell ⟨uap.heap.size, 1, none⟩ (.string qu.fast)).setCell ⟨uap.heap.size, 2, none⟩ (.slice A2 qu.acts.length c2)) uap.heap.size qu A2 c2 := next_set (r := qu) (nb := uap.heap.size) (A := A2) (c := c2) (low_of HB2.out (by repeat (first | exact Below.refl _ _ | refine Below.drew ?_ | refine Below.alloc ?_ (by simp) _))) (Nat.le_refl _) HR3.out ha2.out
           clear hrun
           go_wp2_with fail
           go_meet
           exact ⟨_, A2, c2, rfl, rfl, hN⟩)
    case rest =>
      obtain ⟨nb10, A10, c10, rfl, rfl, HN⟩ := hcut
      obtain ⟨ubp, rfl⟩ : ∃ Wg : World, Wg = wc := ⟨_, rfl⟩
      clear e_r0 e_r1 e_r2 z_r e_n0 e_n1 e_n2 z_n
      have HB_ubp := Lib.hid (HB_uap.out.trans (HN.out.low.mono HB_uap.out.size))
      have BX_r_ubp := Lib.hid ((HN.out.low.block _ (Array.getElem?_eq_some_iff.1 BX_r_uap.out).1).trans BX_r_uap.out)
      have BX_n_ubp := Lib.hid ((HN.out.low.block _ (Array.getElem?_eq_some_iff.1 BX_n_uap.out).1).trans BX_n_uap.out)
      have BX_a1_ubp := Lib.hid ((HN.out.low.block _ (Array.getElem?_eq_some_iff.1 BX_a1_uap.out).1).trans BX_a1_uap.out)
      have BX_a2_ubp := Lib.hid ((HN.out.low.block _ (Array.getElem?_eq_some_iff.1 BX_a2_uap.out).1).trans BX_a2_uap.out)
      have BX_l1_ubp := Lib.hid ((HN.out.low.block _ (Array.getElem?_eq_some_iff.1 BX_l1_uap.out).1).trans BX_l1_uap.out)
      have BX_l2_ubp := Lib.hid ((HN.out.low.block _ (Array.getElem?_eq_some_iff.1 BX_l2_uap.out).1).trans BX_l2_uap.out)
      have BX_h1_ubp := Lib.hid ((HN.out.low.block _ (Array.getElem?_eq_some_iff.1 BX_h1_uap.out).1).trans BX_h1_uap.out)
      have BX_h2_ubp := Lib.hid ((HN.out.low.block _ (Array.getElem?_eq_some_iff.1 BX_h2_uap.out).1).trans BX_h2_uap.out)
      have BX_n1_ubp := Lib.hid ((HN.out.low.block _ (Array.getElem?_eq_some_iff.1 BX_n1_uap.out).1).trans BX_n1_uap.out)
      have BX_n2_ubp := Lib.hid ((HN.out.low.block _ (Array.getElem?_eq_some_iff.1 BX_n2_uap.out).1).trans BX_n2_uap.out)
      have BX_g1_ubp := Lib.hid ((HN.out.low.block _ (Array.getElem?_eq_some_iff.1 BX_g1_uap.out).1).trans BX_g1_uap.out)
      have HA_v_ubp := Lib.hid ((HA_v_uap.out.below HN.out.low).mono (B' := ubp.heap.size) HN.out.low.size)
      have HA_l_ubp := Lib.hid ((HA_l_uap.out.below HN.out.low).mono (B' := ubp.heap.size) HN.out.low.size)
      have HA_a1_ubp := Lib.hid ((HA_a1_uap.out.below HN.out.low).mono (B' := ubp.heap.size) HN.out.low.size)
      have HA_a2_ubp := Lib.hid ((HA_a2_uap.out.below HN.out.low).mono (B' := ubp.heap.size) HN.out.low.size)
      have HA_l1_ubp := Lib.hid ((HA_l1_uap.out.below HN.out.low).mono (B' := ubp.heap.size) HN.out.low.size)
      have HA_l2_ubp := Lib.hid ((HA_l2_uap.out.below HN.out.low).mono (B' := ubp.heap.size) HN.out.low.size)
      have HA_h1_ubp := Lib.hid ((HA_h1_uap.out.below HN.out.low).mono (B' := ubp.heap.size) HN.out.low.size)
      have HA_h2_ubp := Lib.hid ((HA_h2_uap.out.below HN.out.low).mono (B' := ubp.heap.size) HN.out.low.size)
      have HA_n1_ubp := Lib.hid ((HA_n1_uap.out.below HN.out.low).mono (B' := ubp.heap.size) HN.out.low.size)
      have HA_n2_ubp := Lib.hid ((HA_n2_uap.out.below HN.out.low).mono (B' := ubp.heap.size) HN.out.low.size)
      have HA_g1_ubp := Lib.hid ((HA_g1_uap.out.below HN.out.low).mono (B' := ubp.heap.size) HN.out.low.size)
      have HG_ubp := Lib.hid (hG.below HB_ubp.out h5)
      clear HB_uap HG_uap BX_r_uap BX_n_uap BX_a1_uap BX_a2_uap BX_l1_uap BX_l2_uap BX_h1_uap BX_h2_uap BX_n1_uap BX_n2_uap BX_g1_uap HA_v_uap HA_l_uap HA_a1_uap HA_a2_uap HA_l1_uap HA_l2_uap HA_h1_uap HA_h2_uap HA_n1_uap HA_n2_uap HA_g1_uap 
      have BX_u1_ubp := Lib.hid HN.out.box
      have HA_u1_ubp := Lib.hid HN.out.acts
      clear HN
      have e_r0 : ubp.cell? ⟨w.heap.size, 0, none⟩ = some (.int .i64 r.room) := Lib.cell_of_heap BX_r_ubp.out 0
      have e_r1 : ubp.cell? ⟨w.heap.size, 1, none⟩ = some (.string r.fast) := Lib.cell_of_heap BX_r_ubp.out 1
      have e_r2 : ubp.cell? ⟨w.heap.size, 2, none⟩ = some (.slice Av r.acts.length cv) := Lib.cell_of_heap BX_r_ubp.out 2
      have z_r : w.heap.size < ubp.heap.size := (Array.getElem?_eq_some_iff.1 BX_r_ubp.out).1
      have e_n0 : ubp.cell? ⟨(w.heap.size + 1), 0, none⟩ = some (.int .i64 a) := Lib.cell_of_heap BX_n_ubp.out 0
      have e_n1 : ubp.cell? ⟨(w.heap.size + 1), 1, none⟩ = some (.int .i64 b) := Lib.cell_of_heap BX_n_ubp.out 1
      have e_n2 : ubp.cell? ⟨(w.heap.size + 1), 2, none⟩ = some (.int .i64 c) := Lib.cell_of_heap BX_n_ubp.out 2
      have z_n : (w.heap.size + 1) < ubp.heap.size := (Array.getElem?_eq_some_iff.1 BX_n_ubp.out).1
      have e_u10 : ubp.cell? ⟨nb10, 0, none⟩ = some (.int .i64 qu.room) := Lib.cell_of_heap BX_u1_ubp.out 0
      have e_u11 : ubp.cell? ⟨nb10, 1, none⟩ = some (.string qu.fast) := Lib.cell_of_heap BX_u1_ubp.out 1
      have e_u12 : ubp.cell? ⟨nb10, 2, none⟩ = some (.slice A10 qu.acts.length c10) := Lib.cell_of_heap BX_u1_ubp.out 2
      have z_u1 : nb10 < ubp.heap.size := (Array.getElem?_eq_some_iff.1 BX_u1_ubp.out).1
      go_wp2_with fail
      go_cut [29, 30] from 176 to 183 (fun s1 s2 wx => ∃ (nb : Nat) (A2 : Option Addr) (c2 : Nat), s1 = .pointer (some ⟨nb, 0, none⟩) ∧ s2 = .int .i64 ev ∧ Hid (NextAt ubp wx nb qv A2 c2))
      case first =>
        have hrun := HRT.out
        clear BX_r_ubp BX_n_ubp BX_a1_ubp BX_a2_ubp BX_l1_ubp BX_l2_ubp BX_h1_ubp BX_h2_ubp BX_n1_ubp BX_n2_ubp BX_g1_ubp BX_u1_ubp HA_v_ubp HA_a1_ubp HA_a2_ubp HA_l1_ubp HA_l2_ubp HA_h1_ubp HA_h2_ubp HA_n1_ubp HA_n2_ubp HA_g1_ubp HB_ubp HG_ubp
        clear hqa hqh hqn hqu hq2 hca hcl HA HU HV HL HRH HRT HIH HX0 HK2 hG
        go_region_with (go_at_call 5; refine (act_ret qu _ _ (l.drop k) _ (acts_up HA_u1_ubp.out (by repeat (first | exact Below.refl _ _ | refine Below.drew ?_ | refine Below.alloc ?_ (by simp) _)) (by simp)) (HIT.out _ _ (acts_up HA_l_ubp.out (by repeat (first | exact Below.refl _ _ | refine Below.drew ?_ | refine Below.alloc ?_ (by simp) _)) (by simp)))).mono ?_; rintro e w2 ⟨A2, c2, ha2, he, hb2⟩; rw [hqv.out.1] at ha2; rw [hqv.out.1, hqv.out.2] at he; subst he; have HB2 := Lib.hid hb2; try (have R2 := hb2.block ubp.heap.size (by simp); have R3 : w2.heap[ubp.heap.size]? = some (.cells #[.int .i64 0, .string ⟨#[]⟩, .slice none 0 0] 24 (0, 0)) := R2.trans (heap_alloc_new _ _); have g0 : w2.cell? ⟨ubp.heap.size, 0, none⟩ = some (.int .i64 0) := Lib.cell_of_heap R3 0; have g1 : w2.cell? ⟨ubp.heap.size, 1, none⟩ = some (.string ⟨#[]⟩) := Lib.cell_of_heap R3 1; have g2 : w2.cell? ⟨ubp.heap.size, 2, none⟩ = some (.slice none 0 0) := Lib.cell_of_heap R3 2; have g3 := Lib.frozen_of_heap R3; have HR3 := Lib.hid R3; clear R2 R3); clear hb2)
        all_goals try dsimp only
        all_goals first
          | (have hN : NextAt ubp (w2.alloc (.cells #[.int .i64 qv.room, .string qv.fast, .slice A2 qv.acts.length c2] 24)) w2.heap.size qv A2 c2 := next_new (by repeat (first | exact Below.refl _ _ | refine Below.drew ?_ | refine Below.alloc ?_ (by simp) _)) HB2.out ha2.out
             clear hrun
             go_wp2_with fail
             go_meet
             exact ⟨_, A2, c2, rfl, rfl, hN⟩)
          | (have hN : NextAt ubp (((w2.setCell ⟨ubp.heap.size, 0, none⟩ (.int .i64 qv.room)).setCell ⟨ubp.heap.size, 1, none⟩ (.string qv.fast)).setCell ⟨ubp.heap.size, 2, none⟩ (.slice A2 qv.acts.length c2)) ubp.heap.size qv A2 c2 := next_set (r := qv) (nb := ubp.heap.size) (A := A2) (c := c2) (low_of HB2.out (by repeat (first | exact Below.refl _ _ | refine Below.drew ?_ | refine Below.alloc ?_ (by simp) _))) (Nat.le_refl _) HR3.out ha2.out
             clear hrun
             go_wp2_with fail
             go_meet
             exact ⟨_, A2, c2, rfl, rfl, hN⟩)
      case rest =>
        obtain ⟨nb11, A11, c11, rfl, rfl, HN⟩ := hcut
        obtain ⟨ucp, rfl⟩ : ∃ Wg : World, Wg = wc := ⟨_, rfl⟩
        clear e_r0 e_r1 e_r2 z_r e_n0 e_n1 e_n2 z_n e_u10 e_u11 e_u12 z_u1
        have HB_ucp := Lib.hid (HB_ubp.out.trans (HN.out.low.mono HB_ubp.out.size))
        have BX_r_ucp := Lib.hid ((HN.out.low.block _ (Array.getElem?_eq_some_iff.1 BX_r_ubp.out).1).trans BX_r_ubp.out)
        have BX_n_ucp := Lib.hid ((HN.out.low.block _ (Array.getElem?_eq_some_iff.1 BX_n_ubp.out).1).trans BX_n_ubp.out)
        have BX_a1_ucp := Lib.hid ((HN.out.low.block _ (Array.getElem?_eq_some_iff.1 BX_a1_ubp.out).1).trans BX_a1_ubp.out)
        have BX_a2_ucp := Lib.hid ((HN.out.low.block _ (Array.getElem?_eq_some_iff.1 BX_a2_ubp.out).1).trans BX_a2_ubp.out)
        have BX_l1_ucp := Lib.hid ((HN.out.low.block _ (Array.getElem?_eq_some_iff.1 BX_l1_ubp.out).1).trans BX_l1_ubp.out)
        have BX_l2_ucp := Lib.hid ((HN.out.low.block _ (Array.getElem?_eq_some_iff.1 BX_l2_ubp.out).1).trans BX_l2_ubp.out)
        have BX_h1_ucp := Lib.hid ((HN.out.low.block _ (Array.getElem?_eq_some_iff.1 BX_h1_ubp.out).1).trans BX_h1_ubp.out)
        have BX_h2_ucp := Lib.hid ((HN.out.low.block _ (Array.getElem?_eq_some_iff.1 BX_h2_ubp.out).1).trans BX_h2_ubp.out)
        have BX_n1_ucp := Lib.hid ((HN.out.low.block _ (Array.getElem?_eq_some_iff.1 BX_n1_ubp.out).1).trans BX_n1_ubp.out)
        have BX_n2_ucp := Lib.hid ((HN.out.low.block _ (Array.getElem?_eq_some_iff.1 BX_n2_ubp.out).1).trans BX_n2_ubp.out)
        have BX_g1_ucp := Lib.hid ((HN.out.low.block _ (Array.getElem?_eq_some_iff.1 BX_g1_ubp.out).1).trans BX_g1_ubp.out)
        have BX_u1_ucp := Lib.hid ((HN.out.low.block _ (Array.getElem?_eq_some_iff.1 BX_u1_ubp.out).1).trans BX_u1_ubp.out)
        have HA_v_ucp := Lib.hid ((HA_v_ubp.out.below HN.out.low).mono (B' := ucp.heap.size) HN.out.low.size)
        have HA_l_ucp := Lib.hid ((HA_l_ubp.out.below HN.out.low).mono (B' := ucp.heap.size) HN.out.low.size)
        have HA_a1_ucp := Lib.hid ((HA_a1_ubp.out.below HN.out.low).mono (B' := ucp.heap.size) HN.out.low.size)
        have HA_a2_ucp := Lib.hid ((HA_a2_ubp.out.below HN.out.low).mono (B' := ucp.heap.size) HN.out.low.size)
        have HA_l1_ucp := Lib.hid ((HA_l1_ubp.out.below HN.out.low).mono (B' := ucp.heap.size) HN.out.low.size)
        have HA_l2_ucp := Lib.hid ((HA_l2_ubp.out.below HN.out.low).mono (B' := ucp.heap.size) HN.out.low.size)
        have HA_h1_ucp := Lib.hid ((HA_h1_ubp.out.below HN.out.low).mono (B' := ucp.heap.size) HN.out.low.size)
        have HA_h2_ucp := Lib.hid ((HA_h2_ubp.out.below HN.out.low).mono (B' := ucp.heap.size) HN.out.low.size)
        have HA_n1_ucp := Lib.hid ((HA_n1_ubp.out.below HN.out.low).mono (B' := ucp.heap.size) HN.out.low.size)
        have HA_n2_ucp := Lib.hid ((HA_n2_ubp.out.below HN.out.low).mono (B' := ucp.heap.size) HN.out.low.size)
        have HA_g1_ucp := Lib.hid ((HA_g1_ubp.out.below HN.out.low).mono (B' := ucp.heap.size) HN.out.low.size)
        have HA_u1_ucp := Lib.hid ((HA_u1_ubp.out.below HN.out.low).mono (B' := ucp.heap.size) HN.out.low.size)
        have HG_ucp := Lib.hid (hG.below HB_ucp.out h5)
        clear HB_ubp HG_ubp BX_r_ubp BX_n_ubp BX_a1_ubp BX_a2_ubp BX_l1_ubp BX_l2_ubp BX_h1_ubp BX_h2_ubp BX_n1_ubp BX_n2_ubp BX_g1_ubp BX_u1_ubp HA_v_ubp HA_l_ubp HA_a1_ubp HA_a2_ubp HA_l1_ubp HA_l2_ubp HA_h1_ubp HA_h2_ubp HA_n1_ubp HA_n2_ubp HA_g1_ubp HA_u1_ubp 
        have BX_v1_ucp := Lib.hid HN.out.box
        have HA_v1_ucp := Lib.hid HN.out.acts
        clear HN
        have e_v10 : ucp.cell? ⟨nb11, 0, none⟩ = some (.int .i64 qv.room) := Lib.cell_of_heap BX_v1_ucp.out 0
        have e_v11 : ucp.cell? ⟨nb11, 1, none⟩ = some (.string qv.fast) := Lib.cell_of_heap BX_v1_ucp.out 1
        have e_v12 : ucp.cell? ⟨nb11, 2, none⟩ = some (.slice A11 qv.acts.length c11) := Lib.cell_of_heap BX_v1_ucp.out 2
        have z_v1 : nb11 < ucp.heap.size := (Array.getElem?_eq_some_iff.1 BX_v1_ucp.out).1
        have e_a10 : ucp.cell? ⟨y1.heap.size, 0, none⟩ = some (.int .i64 qa.room) := Lib.cell_of_heap BX_a1_ucp.out 0
        have e_a11 : ucp.cell? ⟨y1.heap.size, 1, none⟩ = some (.string qa.fast) := Lib.cell_of_heap BX_a1_ucp.out 1
        have e_a12 : ucp.cell? ⟨y1.heap.size, 2, none⟩ = some (.slice A1 qa.acts.length c1) := Lib.cell_of_heap BX_a1_ucp.out 2
        have z_a1 : y1.heap.size < ucp.heap.size := (Array.getElem?_eq_some_iff.1 BX_a1_ucp.out).1
        try dsimp only
        rcases hca.out with ⟨rfl, rfl, rfl, hq⟩ | rfl
        · subst hq
          go_wp2_with fail
          try dsimp only
          refine (rsame_yes _ _ _ _ HA_v1_ucp.out HA_a1_ucp.out).mono ?_
          rintro e udp ⟨rfl, hb⟩
          clear e_v10 e_v11 e_v12 z_v1 e_a10 e_a11 e_a12 z_a1
          have HB_udp := Lib.hid (HB_ucp.out.trans (hb.mono HB_ucp.out.size))
          have BX_r_udp := Lib.hid ((hb.block _ (Array.getElem?_eq_some_iff.1 BX_r_ucp.out).1).trans BX_r_ucp.out)
          have BX_n_udp := Lib.hid ((hb.block _ (Array.getElem?_eq_some_iff.1 BX_n_ucp.out).1).trans BX_n_ucp.out)
          have BX_a1_udp := Lib.hid ((hb.block _ (Array.getElem?_eq_some_iff.1 BX_a1_ucp.out).1).trans BX_a1_ucp.out)
          have BX_a2_udp := Lib.hid ((hb.block _ (Array.getElem?_eq_some_iff.1 BX_a2_ucp.out).1).trans BX_a2_ucp.out)
          have BX_l1_udp := Lib.hid ((hb.block _ (Array.getElem?_eq_some_iff.1 BX_l1_ucp.out).1).trans BX_l1_ucp.out)
          have BX_l2_udp := Lib.hid ((hb.block _ (Array.getElem?_eq_some_iff.1 BX_l2_ucp.out).1).trans BX_l2_ucp.out)
          have BX_h1_udp := Lib.hid ((hb.block _ (Array.getElem?_eq_some_iff.1 BX_h1_ucp.out).1).trans BX_h1_ucp.out)
          have BX_h2_udp := Lib.hid ((hb.block _ (Array.getElem?_eq_some_iff.1 BX_h2_ucp.out).1).trans BX_h2_ucp.out)
          have BX_n1_udp := Lib.hid ((hb.block _ (Array.getElem?_eq_some_iff.1 BX_n1_ucp.out).1).trans BX_n1_ucp.out)
          have BX_n2_udp := Lib.hid ((hb.block _ (Array.getElem?_eq_some_iff.1 BX_n2_ucp.out).1).trans BX_n2_ucp.out)
          have BX_g1_udp := Lib.hid ((hb.block _ (Array.getElem?_eq_some_iff.1 BX_g1_ucp.out).1).trans BX_g1_ucp.out)
          have BX_u1_udp := Lib.hid ((hb.block _ (Array.getElem?_eq_some_iff.1 BX_u1_ucp.out).1).trans BX_u1_ucp.out)
          have BX_v1_udp := Lib.hid ((hb.block _ (Array.getElem?_eq_some_iff.1 BX_v1_ucp.out).1).trans BX_v1_ucp.out)
          have HA_v_udp := Lib.hid ((HA_v_ucp.out.below hb).mono (B' := udp.heap.size) hb.size)
          have HA_l_udp := Lib.hid ((HA_l_ucp.out.below hb).mono (B' := udp.heap.size) hb.size)
          have HA_a1_udp := Lib.hid ((HA_a1_ucp.out.below hb).mono (B' := udp.heap.size) hb.size)
          have HA_a2_udp := Lib.hid ((HA_a2_ucp.out.below hb).mono (B' := udp.heap.size) hb.size)
          have HA_l1_udp := Lib.hid ((HA_l1_ucp.out.below hb).mono (B' := udp.heap.size) hb.size)
          have HA_l2_udp := Lib.hid ((HA_l2_ucp.out.below hb).mono (B' := udp.heap.size) hb.size)
          have HA_h1_udp := Lib.hid ((HA_h1_ucp.out.below hb).mono (B' := udp.heap.size) hb.size)
          have HA_h2_udp := Lib.hid ((HA_h2_ucp.out.below hb).mono (B' := udp.heap.size) hb.size)
          have HA_n1_udp := Lib.hid ((HA_n1_ucp.out.below hb).mono (B' := udp.heap.size) hb.size)
          have HA_n2_udp := Lib.hid ((HA_n2_ucp.out.below hb).mono (B' := udp.heap.size) hb.size)
          have HA_g1_udp := Lib.hid ((HA_g1_ucp.out.below hb).mono (B' := udp.heap.size) hb.size)
          have HA_u1_udp := Lib.hid ((HA_u1_ucp.out.below hb).mono (B' := udp.heap.size) hb.size)
          have HA_v1_udp := Lib.hid ((HA_v1_ucp.out.below hb).mono (B' := udp.heap.size) hb.size)
          have HG_udp := Lib.hid (hG.below HB_udp.out h5)
          clear HB_ucp HG_ucp BX_r_ucp BX_n_ucp BX_a1_ucp BX_a2_ucp BX_l1_ucp BX_l2_ucp BX_h1_ucp BX_h2_ucp BX_n1_ucp BX_n2_ucp BX_g1_ucp BX_u1_ucp BX_v1_ucp HA_v_ucp HA_l_ucp HA_a1_ucp HA_a2_ucp HA_l1_ucp HA_l2_ucp HA_h1_ucp HA_h2_ucp HA_n1_ucp HA_n2_ucp HA_g1_ucp HA_u1_ucp HA_v1_ucp 
          clear hb
          go_wp2_with fail
          refine bodyPost_ret (v := .bool true) (by simp [results, Tryz.results3, go_sem]) rfl ?_
          exact ⟨rfl, HB_udp.out⟩
        · go_wp2_with fail
          refine bodyPost_ret (v := .bool true) (by simp [results, Tryz.results3, go_sem]) rfl ?_
          exact ⟨rfl, HB_ucp.out⟩
  · have e_r0 : v9.cell? ⟨w.heap.size, 0, none⟩ = some (.int .i64 r.room) := Lib.cell_of_heap BX_r_v9.out 0
    have e_r1 : v9.cell? ⟨w.heap.size, 1, none⟩ = some (.string r.fast) := Lib.cell_of_heap BX_r_v9.out 1
    have e_r2 : v9.cell? ⟨w.heap.size, 2, none⟩ = some (.slice Av r.acts.length cv) := Lib.cell_of_heap BX_r_v9.out 2
    have z_r : w.heap.size < v9.heap.size := (Array.getElem?_eq_some_iff.1 BX_r_v9.out).1
    have e_n0 : v9.cell? ⟨(w.heap.size + 1), 0, none⟩ = some (.int .i64 a) := Lib.cell_of_heap BX_n_v9.out 0
    have e_n1 : v9.cell? ⟨(w.heap.size + 1), 1, none⟩ = some (.int .i64 b) := Lib.cell_of_heap BX_n_v9.out 1
    have e_n2 : v9.cell? ⟨(w.heap.size + 1), 2, none⟩ = some (.int .i64 c) := Lib.cell_of_heap BX_n_v9.out 2
    have z_n : (w.heap.size + 1) < v9.heap.size := (Array.getElem?_eq_some_iff.1 BX_n_v9.out).1
    have e_l10 : v9.cell? ⟨y3.heap.size, 0, none⟩ = some (.int .i64 ql.room) := Lib.cell_of_heap BX_l1_v9.out 0
    have e_l11 : v9.cell? ⟨y3.heap.size, 1, none⟩ = some (.string ql.fast) := Lib.cell_of_heap BX_l1_v9.out 1
    have e_l12 : v9.cell? ⟨y3.heap.size, 2, none⟩ = some (.slice A3 ql.acts.length c3) := Lib.cell_of_heap BX_l1_v9.out 2
    have z_l1 : y3.heap.size < v9.heap.size := (Array.getElem?_eq_some_iff.1 BX_l1_v9.out).1
    go_wp2_with fail
    refine (lose_ret ql _ c a b _ HA_l1_v9.out).mono ?_
    rintro e u9q ⟨A9, c9, ha, he, hb⟩
    rw [hq2.out.1] at ha
    rw [hq2.out.1, hq2.out.2] at he
    subst he
    clear e_n0 e_n1 e_n2 z_n e_r0 e_r1 e_r2 z_r e_l10 e_l11 e_l12 z_l1
    have HB_u9q := Lib.hid (HB_v9.out.trans (hb.mono HB_v9.out.size))
    have BX_r_u9q := Lib.hid ((hb.block _ (Array.getElem?_eq_some_iff.1 BX_r_v9.out).1).trans BX_r_v9.out)
    have BX_n_u9q := Lib.hid ((hb.block _ (Array.getElem?_eq_some_iff.1 BX_n_v9.out).1).trans BX_n_v9.out)
    have BX_a1_u9q := Lib.hid ((hb.block _ (Array.getElem?_eq_some_iff.1 BX_a1_v9.out).1).trans BX_a1_v9.out)
    have BX_a2_u9q := Lib.hid ((hb.block _ (Array.getElem?_eq_some_iff.1 BX_a2_v9.out).1).trans BX_a2_v9.out)
    have BX_l1_u9q := Lib.hid ((hb.block _ (Array.getElem?_eq_some_iff.1 BX_l1_v9.out).1).trans BX_l1_v9.out)
    have BX_l2_u9q := Lib.hid ((hb.block _ (Array.getElem?_eq_some_iff.1 BX_l2_v9.out).1).trans BX_l2_v9.out)
    have BX_h1_u9q := Lib.hid ((hb.block _ (Array.getElem?_eq_some_iff.1 BX_h1_v9.out).1).trans BX_h1_v9.out)
    have BX_h2_u9q := Lib.hid ((hb.block _ (Array.getElem?_eq_some_iff.1 BX_h2_v9.out).1).trans BX_h2_v9.out)
    have BX_n1_u9q := Lib.hid ((hb.block _ (Array.getElem?_eq_some_iff.1 BX_n1_v9.out).1).trans BX_n1_v9.out)
    have BX_n2_u9q := Lib.hid ((hb.block _ (Array.getElem?_eq_some_iff.1 BX_n2_v9.out).1).trans BX_n2_v9.out)
    have HA_v_u9q := Lib.hid ((HA_v_v9.out.below hb).mono (B' := u9q.heap.size) hb.size)
    have HA_l_u9q := Lib.hid ((HA_l_v9.out.below hb).mono (B' := u9q.heap.size) hb.size)
    have HA_a1_u9q := Lib.hid ((HA_a1_v9.out.below hb).mono (B' := u9q.heap.size) hb.size)
    have HA_a2_u9q := Lib.hid ((HA_a2_v9.out.below hb).mono (B' := u9q.heap.size) hb.size)
    have HA_l1_u9q := Lib.hid ((HA_l1_v9.out.below hb).mono (B' := u9q.heap.size) hb.size)
    have HA_l2_u9q := Lib.hid ((HA_l2_v9.out.below hb).mono (B' := u9q.heap.size) hb.size)
    have HA_h1_u9q := Lib.hid ((HA_h1_v9.out.below hb).mono (B' := u9q.heap.size) hb.size)
    have HA_h2_u9q := Lib.hid ((HA_h2_v9.out.below hb).mono (B' := u9q.heap.size) hb.size)
    have HA_n1_u9q := Lib.hid ((HA_n1_v9.out.below hb).mono (B' := u9q.heap.size) hb.size)
    have HA_n2_u9q := Lib.hid ((HA_n2_v9.out.below hb).mono (B' := u9q.heap.size) hb.size)
    have HG_u9q := Lib.hid (hG.below HB_u9q.out h5)
    clear HB_v9 HG_v9 BX_r_v9 BX_n_v9 BX_a1_v9 BX_a2_v9 BX_l1_v9 BX_l2_v9 BX_h1_v9 BX_h2_v9 BX_n1_v9 BX_n2_v9 HA_v_v9 HA_l_v9 HA_a1_v9 HA_a2_v9 HA_l1_v9 HA_l2_v9 HA_h1_v9 HA_h2_v9 HA_n1_v9 HA_n2_v9 
    clear hb
    have HA_g1_u9q := ha
    clear ha
    have e_r0 : u9q.cell? ⟨w.heap.size, 0, none⟩ = some (.int .i64 r.room) := Lib.cell_of_heap BX_r_u9q.out 0
    have e_r1 : u9q.cell? ⟨w.heap.size, 1, none⟩ = some (.string r.fast) := Lib.cell_of_heap BX_r_u9q.out 1
    have e_r2 : u9q.cell? ⟨w.heap.size, 2, none⟩ = some (.slice Av r.acts.length cv) := Lib.cell_of_heap BX_r_u9q.out 2
    have z_r : w.heap.size < u9q.heap.size := (Array.getElem?_eq_some_iff.1 BX_r_u9q.out).1
    have e_n0 : u9q.cell? ⟨(w.heap.size + 1), 0, none⟩ = some (.int .i64 a) := Lib.cell_of_heap BX_n_u9q.out 0
    have e_n1 : u9q.cell? ⟨(w.heap.size + 1), 1, none⟩ = some (.int .i64 b) := Lib.cell_of_heap BX_n_u9q.out 1
    have e_n2 : u9q.cell? ⟨(w.heap.size + 1), 2, none⟩ = some (.int .i64 c) := Lib.cell_of_heap BX_n_u9q.out 2
    have z_n : (w.heap.size + 1) < u9q.heap.size := (Array.getElem?_eq_some_iff.1 BX_n_u9q.out).1
    have e_l10 : u9q.cell? ⟨y3.heap.size, 0, none⟩ = some (.int .i64 ql.room) := Lib.cell_of_heap BX_l1_u9q.out 0
    have e_l11 : u9q.cell? ⟨y3.heap.size, 1, none⟩ = some (.string ql.fast) := Lib.cell_of_heap BX_l1_u9q.out 1
    have e_l12 : u9q.cell? ⟨y3.heap.size, 2, none⟩ = some (.slice A3 ql.acts.length c3) := Lib.cell_of_heap BX_l1_u9q.out 2
    have z_l1 : y3.heap.size < u9q.heap.size := (Array.getElem?_eq_some_iff.1 BX_l1_u9q.out).1
    go_wp2_with fail
    obtain ⟨U9q, hX⟩ : ∃ U9q, u9q.alloc (.cells #[.int .i64 ql.room, .string ql.fast, .slice A9 ql.acts.length c9] 24) = U9q := ⟨_, rfl⟩
    have hbx : Below u9q.heap.size u9q U9q := by rw [← hX]; exact (Below.refl _ _).alloc (Nat.le_refl _) _
    clear e_r0 e_r1 e_r2 z_r e_n0 e_n1 e_n2 z_n e_l10 e_l11 e_l12 z_l1
    have HB_U9q := Lib.hid (HB_u9q.out.trans (hbx.mono HB_u9q.out.size))
    have BX_r_U9q := Lib.hid ((hbx.block _ (Array.getElem?_eq_some_iff.1 BX_r_u9q.out).1).trans BX_r_u9q.out)
    have BX_n_U9q := Lib.hid ((hbx.block _ (Array.getElem?_eq_some_iff.1 BX_n_u9q.out).1).trans BX_n_u9q.out)
    have BX_a1_U9q := Lib.hid ((hbx.block _ (Array.getElem?_eq_some_iff.1 BX_a1_u9q.out).1).trans BX_a1_u9q.out)
    have BX_a2_U9q := Lib.hid ((hbx.block _ (Array.getElem?_eq_some_iff.1 BX_a2_u9q.out).1).trans BX_a2_u9q.out)
    have BX_l1_U9q := Lib.hid ((hbx.block _ (Array.getElem?_eq_some_iff.1 BX_l1_u9q.out).1).trans BX_l1_u9q.out)
    have BX_l2_U9q := Lib.hid ((hbx.block _ (Array.getElem?_eq_some_iff.1 BX_l2_u9q.out).1).trans BX_l2_u9q.out)
    have BX_h1_U9q := Lib.hid ((hbx.block _ (Array.getElem?_eq_some_iff.1 BX_h1_u9q.out).1).trans BX_h1_u9q.out)
    have BX_h2_U9q := Lib.hid ((hbx.block _ (Array.getElem?_eq_some_iff.1 BX_h2_u9q.out).1).trans BX_h2_u9q.out)
    have BX_n1_U9q := Lib.hid ((hbx.block _ (Array.getElem?_eq_some_iff.1 BX_n1_u9q.out).1).trans BX_n1_u9q.out)
    have BX_n2_U9q := Lib.hid ((hbx.block _ (Array.getElem?_eq_some_iff.1 BX_n2_u9q.out).1).trans BX_n2_u9q.out)
    have HA_v_U9q := Lib.hid ((HA_v_u9q.out.below hbx).mono (B' := U9q.heap.size) hbx.size)
    have HA_l_U9q := Lib.hid ((HA_l_u9q.out.below hbx).mono (B' := U9q.heap.size) hbx.size)
    have HA_a1_U9q := Lib.hid ((HA_a1_u9q.out.below hbx).mono (B' := U9q.heap.size) hbx.size)
    have HA_a2_U9q := Lib.hid ((HA_a2_u9q.out.below hbx).mono (B' := U9q.heap.size) hbx.size)
    have HA_l1_U9q := Lib.hid ((HA_l1_u9q.out.below hbx).mono (B' := U9q.heap.size) hbx.size)
    have HA_l2_U9q := Lib.hid ((HA_l2_u9q.out.below hbx).mono (B' := U9q.heap.size) hbx.size)
    have HA_h1_U9q := Lib.hid ((HA_h1_u9q.out.below hbx).mono (B' := U9q.heap.size) hbx.size)
    have HA_h2_U9q := Lib.hid ((HA_h2_u9q.out.below hbx).mono (B' := U9q.heap.size) hbx.size)
    have HA_n1_U9q := Lib.hid ((HA_n1_u9q.out.below hbx).mono (B' := U9q.heap.size) hbx.size)
    have HA_n2_U9q := Lib.hid ((HA_n2_u9q.out.below hbx).mono (B' := U9q.heap.size) hbx.size)
    have HA_g1_U9q := Lib.hid ((HA_g1_u9q.out.below hbx).mono (B' := U9q.heap.size) hbx.size)
    have HG_U9q := Lib.hid (hG.below HB_U9q.out h5)
    clear HB_u9q HG_u9q BX_r_u9q BX_n_u9q BX_a1_u9q BX_a2_u9q BX_l1_u9q BX_l2_u9q BX_h1_u9q BX_h2_u9q BX_n1_u9q BX_n2_u9q HA_v_u9q HA_l_u9q HA_a1_u9q HA_a2_u9q HA_l1_u9q HA_l2_u9q HA_h1_u9q HA_h2_u9q HA_n1_u9q HA_n2_u9q HA_g1_u9q 
    have BX_g1_U9q : Hid (U9q.heap[u9q.heap.size]? = some (.cells #[.int .i64 ql.room, .string ql.fast, .slice A9 ql.acts.length c9] 24 (0, 0))) := by rw [← hX]; exact heap_alloc_new _ _
    clear hbx
    rw [hX]
    clear hX
    have e_r0 : U9q.cell? ⟨w.heap.size, 0, none⟩ = some (.int .i64 r.room) := Lib.cell_of_heap BX_r_U9q.out 0
    have e_r1 : U9q.cell? ⟨w.heap.size, 1, none⟩ = some (.string r.fast) := Lib.cell_of_heap BX_r_U9q.out 1
    have e_r2 : U9q.cell? ⟨w.heap.size, 2, none⟩ = some (.slice Av r.acts.length cv) := Lib.cell_of_heap BX_r_U9q.out 2
    have z_r : w.heap.size < U9q.heap.size := (Array.getElem?_eq_some_iff.1 BX_r_U9q.out).1
    have e_n0 : U9q.cell? ⟨(w.heap.size + 1), 0, none⟩ = some (.int .i64 a) := Lib.cell_of_heap BX_n_U9q.out 0
    have e_n1 : U9q.cell? ⟨(w.heap.size + 1), 1, none⟩ = some (.int .i64 b) := Lib.cell_of_heap BX_n_U9q.out 1
    have e_n2 : U9q.cell? ⟨(w.heap.size + 1), 2, none⟩ = some (.int .i64 c) := Lib.cell_of_heap BX_n_U9q.out 2
    have z_n : (w.heap.size + 1) < U9q.heap.size := (Array.getElem?_eq_some_iff.1 BX_n_U9q.out).1
    rw [HK2.out]
    go_cut [27, 28] from 168 to 175 (fun s1 s2 wx => ∃ (nb : Nat) (A2 : Option Addr) (c2 : Nat), s1 = .pointer (some ⟨nb, 0, none⟩) ∧ s2 = .int .i64 eu ∧ Hid (NextAt U9q wx nb qu A2 c2))
    case first =>
      have hrun := HRH.out
      clear BX_r_U9q BX_n_U9q BX_a1_U9q BX_a2_U9q BX_l1_U9q BX_l2_U9q BX_h1_U9q BX_h2_U9q BX_n1_U9q BX_n2_U9q BX_g1_U9q HA_a1_U9q HA_a2_U9q HA_l1_U9q HA_l2_U9q HA_h1_U9q HA_h2_U9q HA_n1_U9q HA_n2_U9q HA_g1_U9q HB_U9q HG_U9q
      clear hqa hqh hqn hqv hq2 hca hcl HA HU HV HL HRH HRT HIT HX0 HK2 hG
      go_region_with (go_at_call 5; refine (act_ret r _ _ (l.take k) _ (acts_up HA_v_U9q.out (by repeat (first | exact Below.refl _ _ | refine Below.drew ?_ | refine Below.alloc ?_ (by simp) _)) (by simp)) (HIH.out _ _ (acts_up HA_l_U9q.out (by repeat (first | exact Below.refl _ _ | refine Below.drew ?_ | refine Below.alloc ?_ (by simp) _)) (by simp)))).mono ?_; rintro e w2 ⟨A2, c2, ha2, he, hb2⟩; rw [hqu.out.1] at ha2; rw [hqu.out.1, hqu.out.2] at he; subst he; have HB2 := Lib.hid hb2; try (have R2 := hb2.block U9q.heap.size (by simp); have R3 : w2.heap[U9q.heap.size]? = some (.cells #[.int .i64 0, .string ⟨#[]⟩, .slice none 0 0] 24 (0, 0)) := R2.trans (heap_alloc_new _ _); have g0 : w2.cell? ⟨U9q.heap.size, 0, none⟩ = some (.int .i64 0) := Lib.cell_of_heap R3 0; have g1 : w2.cell? ⟨U9q.heap.size, 1, none⟩ = some (.string ⟨#[]⟩) := Lib.cell_of_heap R3 1; have g2 : w2.cell? ⟨U9q.heap.size, 2, none⟩ = some (.slice none 0 0) := Lib.cell_of_heap R3 2; have g3 := Lib.frozen_of_heap R3; have HR3 := Lib.hid R3; clear R2 R3); clear hb2)
      all_goals try dsimp only
      all_goals first
        | (have hN : NextAt U9q (w2.alloc (.cells #[.int .i64 qu.room, .string qu.fast, .slice A2 qu.acts.length c2] 24)) w2.heap.size qu A2 c2 := next_new (by repeat (first | exact Below.refl _ _ | refine Below.drew ?_ | refine Below.alloc ?_ (by simp) _)) HB2.out ha2.out
           clear hrun
           go_wp2_with fail
           go_meet
           exact ⟨_, A2, c2, rfl, rfl, hN⟩)
        | (have hN : NextAt U9q (((w2.setCell ⟨U9q.heap.size, 0, none⟩ (.int .i64 qu.room)).setCell ⟨U9q.heap.size, 1, none⟩ (.string qu.fast)).setCell ⟨U9q.heap.size, 2, none⟩ (.slice A2 qu.acts.length c2)) U9q.heap.size qu A2 c2 := next_set (r := qu) (nb := U9q.heap.size) (A := A2) (c := c2) (low_of HB2.out (by repeat (first | exact Below.refl _ _ | refine Below.drew ?_ | refine Below.alloc ?_ (by simp) _))) (Nat.le_refl _) HR3.out ha2.out
           clear hrun
           go_wp2_with fail
           go_meet
           exact ⟨_, A2, c2, rfl, rfl, hN⟩)
    case rest =>
      obtain ⟨nb10, A10, c10, rfl, rfl, HN⟩ := hcut
      obtain ⟨ubq, rfl⟩ : ∃ Wg : World, Wg = wc := ⟨_, rfl⟩
      clear e_r0 e_r1 e_r2 z_r e_n0 e_n1 e_n2 z_n
      have HB_ubq := Lib.hid (HB_U9q.out.trans (HN.out.low.mono HB_U9q.out.size))
      have BX_r_ubq := Lib.hid ((HN.out.low.block _ (Array.getElem?_eq_some_iff.1 BX_r_U9q.out).1).trans BX_r_U9q.out)
      have BX_n_ubq := Lib.hid ((HN.out.low.block _ (Array.getElem?_eq_some_iff.1 BX_n_U9q.out).1).trans BX_n_U9q.out)
      have BX_a1_ubq := Lib.hid ((HN.out.low.block _ (Array.getElem?_eq_some_iff.1 BX_a1_U9q.out).1).trans BX_a1_U9q.out)
      have BX_a2_ubq := Lib.hid ((HN.out.low.block _ (Array.getElem?_eq_some_iff.1 BX_a2_U9q.out).1).trans BX_a2_U9q.out)
      have BX_l1_ubq := Lib.hid ((HN.out.low.block _ (Array.getElem?_eq_some_iff.1 BX_l1_U9q.out).1).trans BX_l1_U9q.out)
      have BX_l2_ubq := Lib.hid ((HN.out.low.block _ (Array.getElem?_eq_some_iff.1 BX_l2_U9q.out).1).trans BX_l2_U9q.out)
      have BX_h1_ubq := Lib.hid ((HN.out.low.block _ (Array.getElem?_eq_some_iff.1 BX_h1_U9q.out).1).trans BX_h1_U9q.out)
      have BX_h2_ubq := Lib.hid ((HN.out.low.block _ (Array.getElem?_eq_some_iff.1 BX_h2_U9q.out).1).trans BX_h2_U9q.out)
      have BX_n1_ubq := Lib.hid ((HN.out.low.block _ (Array.getElem?_eq_some_iff.1 BX_n1_U9q.out).1).trans BX_n1_U9q.out)
      have BX_n2_ubq := Lib.hid ((HN.out.low.block _ (Array.getElem?_eq_some_iff.1 BX_n2_U9q.out).1).trans BX_n2_U9q.out)
      have BX_g1_ubq := Lib.hid ((HN.out.low.block _ (Array.getElem?_eq_some_iff.1 BX_g1_U9q.out).1).trans BX_g1_U9q.out)
      have HA_v_ubq := Lib.hid ((HA_v_U9q.out.below HN.out.low).mono (B' := ubq.heap.size) HN.out.low.size)
      have HA_l_ubq := Lib.hid ((HA_l_U9q.out.below HN.out.low).mono (B' := ubq.heap.size) HN.out.low.size)
      have HA_a1_ubq := Lib.hid ((HA_a1_U9q.out.below HN.out.low).mono (B' := ubq.heap.size) HN.out.low.size)
      have HA_a2_ubq := Lib.hid ((HA_a2_U9q.out.below HN.out.low).mono (B' := ubq.heap.size) HN.out.low.size)
      have HA_l1_ubq := Lib.hid ((HA_l1_U9q.out.below HN.out.low).mono (B' := ubq.heap.size) HN.out.low.size)
      have HA_l2_ubq := Lib.hid ((HA_l2_U9q.out.below HN.out.low).mono (B' := ubq.heap.size) HN.out.low.size)
      have HA_h1_ubq := Lib.hid ((HA_h1_U9q.out.below HN.out.low).mono (B' := ubq.heap.size) HN.out.low.size)
      have HA_h2_ubq := Lib.hid ((HA_h2_U9q.out.below HN.out.low).mono (B' := ubq.heap.size) HN.out.low.size)
      have HA_n1_ubq := Lib.hid ((HA_n1_U9q.out.below HN.out.low).mono (B' := ubq.heap.size) HN.out.low.size)
      have HA_n2_ubq := Lib.hid ((HA_n2_U9q.out.below HN.out.low).mono (B' := ubq.heap.size) HN.out.low.size)
      have HA_g1_ubq := Lib.hid ((HA_g1_U9q.out.below HN.out.low).mono (B' := ubq.heap.size) HN.out.low.size)
      have HG_ubq := Lib.hid (hG.below HB_ubq.out h5)
      clear HB_U9q HG_U9q BX_r_U9q BX_n_U9q BX_a1_U9q BX_a2_U9q BX_l1_U9q BX_l2_U9q BX_h1_U9q BX_h2_U9q BX_n1_U9q BX_n2_U9q BX_g1_U9q HA_v_U9q HA_l_U9q HA_a1_U9q HA_a2_U9q HA_l1_U9q HA_l2_U9q HA_h1_U9q HA_h2_U9q HA_n1_U9q HA_n2_U9q HA_g1_U9q 
      have BX_u1_ubq := Lib.hid HN.out.box
      have HA_u1_ubq := Lib.hid HN.out.acts
      clear HN
      have e_r0 : ubq.cell? ⟨w.heap.size, 0, none⟩ = some (.int .i64 r.room) := Lib.cell_of_heap BX_r_ubq.out 0
      have e_r1 : ubq.cell? ⟨w.heap.size, 1, none⟩ = some (.string r.fast) := Lib.cell_of_heap BX_r_ubq.out 1
      have e_r2 : ubq.cell? ⟨w.heap.size, 2, none⟩ = some (.slice Av r.acts.length cv) := Lib.cell_of_heap BX_r_ubq.out 2
      have z_r : w.heap.size < ubq.heap.size := (Array.getElem?_eq_some_iff.1 BX_r_ubq.out).1
      have e_n0 : ubq.cell? ⟨(w.heap.size + 1), 0, none⟩ = some (.int .i64 a) := Lib.cell_of_heap BX_n_ubq.out 0
      have e_n1 : ubq.cell? ⟨(w.heap.size + 1), 1, none⟩ = some (.int .i64 b) := Lib.cell_of_heap BX_n_ubq.out 1
      have e_n2 : ubq.cell? ⟨(w.heap.size + 1), 2, none⟩ = some (.int .i64 c) := Lib.cell_of_heap BX_n_ubq.out 2
      have z_n : (w.heap.size + 1) < ubq.heap.size := (Array.getElem?_eq_some_iff.1 BX_n_ubq.out).1
      have e_u10 : ubq.cell? ⟨nb10, 0, none⟩ = some (.int .i64 qu.room) := Lib.cell_of_heap BX_u1_ubq.out 0
      have e_u11 : ubq.cell? ⟨nb10, 1, none⟩ = some (.string qu.fast) := Lib.cell_of_heap BX_u1_ubq.out 1
      have e_u12 : ubq.cell? ⟨nb10, 2, none⟩ = some (.slice A10 qu.acts.length c10) := Lib.cell_of_heap BX_u1_ubq.out 2
      have z_u1 : nb10 < ubq.heap.size := (Array.getElem?_eq_some_iff.1 BX_u1_ubq.out).1
      go_wp2_with fail
      go_cut [29, 30] from 176 to 183 (fun s1 s2 wx => ∃ (nb : Nat) (A2 : Option Addr) (c2 : Nat), s1 = .pointer (some ⟨nb, 0, none⟩) ∧ s2 = .int .i64 ev ∧ Hid (NextAt ubq wx nb qv A2 c2))
      case first =>
        have hrun := HRT.out
        clear BX_r_ubq BX_n_ubq BX_a1_ubq BX_a2_ubq BX_l1_ubq BX_l2_ubq BX_h1_ubq BX_h2_ubq BX_n1_ubq BX_n2_ubq BX_g1_ubq BX_u1_ubq HA_v_ubq HA_a1_ubq HA_a2_ubq HA_l1_ubq HA_l2_ubq HA_h1_ubq HA_h2_ubq HA_n1_ubq HA_n2_ubq HA_g1_ubq HB_ubq HG_ubq
        clear hqa hqh hqn hqu hq2 hca hcl HA HU HV HL HRH HRT HIH HX0 HK2 hG
        go_region_with (go_at_call 5; refine (act_ret qu _ _ (l.drop k) _ (acts_up HA_u1_ubq.out (by repeat (first | exact Below.refl _ _ | refine Below.drew ?_ | refine Below.alloc ?_ (by simp) _)) (by simp)) (HIT.out _ _ (acts_up HA_l_ubq.out (by repeat (first | exact Below.refl _ _ | refine Below.drew ?_ | refine Below.alloc ?_ (by simp) _)) (by simp)))).mono ?_; rintro e w2 ⟨A2, c2, ha2, he, hb2⟩; rw [hqv.out.1] at ha2; rw [hqv.out.1, hqv.out.2] at he; subst he; have HB2 := Lib.hid hb2; try (have R2 := hb2.block ubq.heap.size (by simp); have R3 : w2.heap[ubq.heap.size]? = some (.cells #[.int .i64 0, .string ⟨#[]⟩, .slice none 0 0] 24 (0, 0)) := R2.trans (heap_alloc_new _ _); have g0 : w2.cell? ⟨ubq.heap.size, 0, none⟩ = some (.int .i64 0) := Lib.cell_of_heap R3 0; have g1 : w2.cell? ⟨ubq.heap.size, 1, none⟩ = some (.string ⟨#[]⟩) := Lib.cell_of_heap R3 1; have g2 : w2.cell? ⟨ubq.heap.size, 2, none⟩ = some (.slice none 0 0) := Lib.cell_of_heap R3 2; have g3 := Lib.frozen_of_heap R3; have HR3 := Lib.hid R3; clear R2 R3); clear hb2)
        all_goals try dsimp only
        all_goals first
          | (have hN : NextAt ubq (w2.alloc (.cells #[.int .i64 qv.room, .string qv.fast, .slice A2 qv.acts.length c2] 24)) w2.heap.size qv A2 c2 := next_new (by repeat (first | exact Below.refl _ _ | refine Below.drew ?_ | refine Below.alloc ?_ (by simp) _)) HB2.out ha2.out
             clear hrun
             go_wp2_with fail
             go_meet
             exact ⟨_, A2, c2, rfl, rfl, hN⟩)
          | (have hN : NextAt ubq (((w2.setCell ⟨ubq.heap.size, 0, none⟩ (.int .i64 qv.room)).setCell ⟨ubq.heap.size, 1, none⟩ (.string qv.fast)).setCell ⟨ubq.heap.size, 2, none⟩ (.slice A2 qv.acts.length c2)) ubq.heap.size qv A2 c2 := next_set (r := qv) (nb := ubq.heap.size) (A := A2) (c := c2) (low_of HB2.out (by repeat (first | exact Below.refl _ _ | refine Below.drew ?_ | refine Below.alloc ?_ (by simp) _))) (Nat.le_refl _) HR3.out ha2.out
             clear hrun
             go_wp2_with fail
             go_meet
             exact ⟨_, A2, c2, rfl, rfl, hN⟩)
      case rest =>
        obtain ⟨nb11, A11, c11, rfl, rfl, HN⟩ := hcut
        obtain ⟨ucq, rfl⟩ : ∃ Wg : World, Wg = wc := ⟨_, rfl⟩
        clear e_r0 e_r1 e_r2 z_r e_n0 e_n1 e_n2 z_n e_u10 e_u11 e_u12 z_u1
        have HB_ucq := Lib.hid (HB_ubq.out.trans (HN.out.low.mono HB_ubq.out.size))
        have BX_r_ucq := Lib.hid ((HN.out.low.block _ (Array.getElem?_eq_some_iff.1 BX_r_ubq.out).1).trans BX_r_ubq.out)
        have BX_n_ucq := Lib.hid ((HN.out.low.block _ (Array.getElem?_eq_some_iff.1 BX_n_ubq.out).1).trans BX_n_ubq.out)
        have BX_a1_ucq := Lib.hid ((HN.out.low.block _ (Array.getElem?_eq_some_iff.1 BX_a1_ubq.out).1).trans BX_a1_ubq.out)
        have BX_a2_ucq := Lib.hid ((HN.out.low.block _ (Array.getElem?_eq_some_iff.1 BX_a2_ubq.out).1).trans BX_a2_ubq.out)
        have BX_l1_ucq := Lib.hid ((HN.out.low.block _ (Array.getElem?_eq_some_iff.1 BX_l1_ubq.out).1).trans BX_l1_ubq.out)
        have BX_l2_ucq := Lib.hid ((HN.out.low.block _ (Array.getElem?_eq_some_iff.1 BX_l2_ubq.out).1).trans BX_l2_ubq.out)
        have BX_h1_ucq := Lib.hid ((HN.out.low.block _ (Array.getElem?_eq_some_iff.1 BX_h1_ubq.out).1).trans BX_h1_ubq.out)
        have BX_h2_ucq := Lib.hid ((HN.out.low.block _ (Array.getElem?_eq_some_iff.1 BX_h2_ubq.out).1).trans BX_h2_ubq.out)
        have BX_n1_ucq := Lib.hid ((HN.out.low.block _ (Array.getElem?_eq_some_iff.1 BX_n1_ubq.out).1).trans BX_n1_ubq.out)
        have BX_n2_ucq := Lib.hid ((HN.out.low.block _ (Array.getElem?_eq_some_iff.1 BX_n2_ubq.out).1).trans BX_n2_ubq.out)
        have BX_g1_ucq := Lib.hid ((HN.out.low.block _ (Array.getElem?_eq_some_iff.1 BX_g1_ubq.out).1).trans BX_g1_ubq.out)
        have BX_u1_ucq := Lib.hid ((HN.out.low.block _ (Array.getElem?_eq_some_iff.1 BX_u1_ubq.out).1).trans BX_u1_ubq.out)
        have HA_v_ucq := Lib.hid ((HA_v_ubq.out.below HN.out.low).mono (B' := ucq.heap.size) HN.out.low.size)
        have HA_l_ucq := Lib.hid ((HA_l_ubq.out.below HN.out.low).mono (B' := ucq.heap.size) HN.out.low.size)
        have HA_a1_ucq := Lib.hid ((HA_a1_ubq.out.below HN.out.low).mono (B' := ucq.heap.size) HN.out.low.size)
        have HA_a2_ucq := Lib.hid ((HA_a2_ubq.out.below HN.out.low).mono (B' := ucq.heap.size) HN.out.low.size)
        have HA_l1_ucq := Lib.hid ((HA_l1_ubq.out.below HN.out.low).mono (B' := ucq.heap.size) HN.out.low.size)
        have HA_l2_ucq := Lib.hid ((HA_l2_ubq.out.below HN.out.low).mono (B' := ucq.heap.size) HN.out.low.size)
        have HA_h1_ucq := Lib.hid ((HA_h1_ubq.out.below HN.out.low).mono (B' := ucq.heap.size) HN.out.low.size)
        have HA_h2_ucq := Lib.hid ((HA_h2_ubq.out.below HN.out.low).mono (B' := ucq.heap.size) HN.out.low.size)
        have HA_n1_ucq := Lib.hid ((HA_n1_ubq.out.below HN.out.low).mono (B' := ucq.heap.size) HN.out.low.size)
        have HA_n2_ucq := Lib.hid ((HA_n2_ubq.out.below HN.out.low).mono (B' := ucq.heap.size) HN.out.low.size)
        have HA_g1_ucq := Lib.hid ((HA_g1_ubq.out.below HN.out.low).mono (B' := ucq.heap.size) HN.out.low.size)
        have HA_u1_ucq := Lib.hid ((HA_u1_ubq.out.below HN.out.low).mono (B' := ucq.heap.size) HN.out.low.size)
        have HG_ucq := Lib.hid (hG.below HB_ucq.out h5)
        clear HB_ubq HG_ubq BX_r_ubq BX_n_ubq BX_a1_ubq BX_a2_ubq BX_l1_ubq BX_l2_ubq BX_h1_ubq BX_h2_ubq BX_n1_ubq BX_n2_ubq BX_g1_ubq BX_u1_ubq HA_v_ubq HA_l_ubq HA_a1_ubq HA_a2_ubq HA_l1_ubq HA_l2_ubq HA_h1_ubq HA_h2_ubq HA_n1_ubq HA_n2_ubq HA_g1_ubq HA_u1_ubq 
        have BX_v1_ucq := Lib.hid HN.out.box
        have HA_v1_ucq := Lib.hid HN.out.acts
        clear HN
        have e_v10 : ucq.cell? ⟨nb11, 0, none⟩ = some (.int .i64 qv.room) := Lib.cell_of_heap BX_v1_ucq.out 0
        have e_v11 : ucq.cell? ⟨nb11, 1, none⟩ = some (.string qv.fast) := Lib.cell_of_heap BX_v1_ucq.out 1
        have e_v12 : ucq.cell? ⟨nb11, 2, none⟩ = some (.slice A11 qv.acts.length c11) := Lib.cell_of_heap BX_v1_ucq.out 2
        have z_v1 : nb11 < ucq.heap.size := (Array.getElem?_eq_some_iff.1 BX_v1_ucq.out).1
        have e_a10 : ucq.cell? ⟨y1.heap.size, 0, none⟩ = some (.int .i64 qa.room) := Lib.cell_of_heap BX_a1_ucq.out 0
        have e_a11 : ucq.cell? ⟨y1.heap.size, 1, none⟩ = some (.string qa.fast) := Lib.cell_of_heap BX_a1_ucq.out 1
        have e_a12 : ucq.cell? ⟨y1.heap.size, 2, none⟩ = some (.slice A1 qa.acts.length c1) := Lib.cell_of_heap BX_a1_ucq.out 2
        have z_a1 : y1.heap.size < ucq.heap.size := (Array.getElem?_eq_some_iff.1 BX_a1_ucq.out).1
        try dsimp only
        rcases hca.out with ⟨rfl, rfl, rfl, hq⟩ | rfl
        · subst hq
          go_wp2_with fail
          try dsimp only
          refine (rsame_yes _ _ _ _ HA_v1_ucq.out HA_a1_ucq.out).mono ?_
          rintro e udq ⟨rfl, hb⟩
          clear e_v10 e_v11 e_v12 z_v1 e_a10 e_a11 e_a12 z_a1
          have HB_udq := Lib.hid (HB_ucq.out.trans (hb.mono HB_ucq.out.size))
          have BX_r_udq := Lib.hid ((hb.block _ (Array.getElem?_eq_some_iff.1 BX_r_ucq.out).1).trans BX_r_ucq.out)
          have BX_n_udq := Lib.hid ((hb.block _ (Array.getElem?_eq_some_iff.1 BX_n_ucq.out).1).trans BX_n_ucq.out)
          have BX_a1_udq := Lib.hid ((hb.block _ (Array.getElem?_eq_some_iff.1 BX_a1_ucq.out).1).trans BX_a1_ucq.out)
          have BX_a2_udq := Lib.hid ((hb.block _ (Array.getElem?_eq_some_iff.1 BX_a2_ucq.out).1).trans BX_a2_ucq.out)
          have BX_l1_udq := Lib.hid ((hb.block _ (Array.getElem?_eq_some_iff.1 BX_l1_ucq.out).1).trans BX_l1_ucq.out)
          have BX_l2_udq := Lib.hid ((hb.block _ (Array.getElem?_eq_some_iff.1 BX_l2_ucq.out).1).trans BX_l2_ucq.out)
          have BX_h1_udq := Lib.hid ((hb.block _ (Array.getElem?_eq_some_iff.1 BX_h1_ucq.out).1).trans BX_h1_ucq.out)
          have BX_h2_udq := Lib.hid ((hb.block _ (Array.getElem?_eq_some_iff.1 BX_h2_ucq.out).1).trans BX_h2_ucq.out)
          have BX_n1_udq := Lib.hid ((hb.block _ (Array.getElem?_eq_some_iff.1 BX_n1_ucq.out).1).trans BX_n1_ucq.out)
          have BX_n2_udq := Lib.hid ((hb.block _ (Array.getElem?_eq_some_iff.1 BX_n2_ucq.out).1).trans BX_n2_ucq.out)
          have BX_g1_udq := Lib.hid ((hb.block _ (Array.getElem?_eq_some_iff.1 BX_g1_ucq.out).1).trans BX_g1_ucq.out)
          have BX_u1_udq := Lib.hid ((hb.block _ (Array.getElem?_eq_some_iff.1 BX_u1_ucq.out).1).trans BX_u1_ucq.out)
          have BX_v1_udq := Lib.hid ((hb.block _ (Array.getElem?_eq_some_iff.1 BX_v1_ucq.out).1).trans BX_v1_ucq.out)
          have HA_v_udq := Lib.hid ((HA_v_ucq.out.below hb).mono (B' := udq.heap.size) hb.size)
          have HA_l_udq := Lib.hid ((HA_l_ucq.out.below hb).mono (B' := udq.heap.size) hb.size)
          have HA_a1_udq := Lib.hid ((HA_a1_ucq.out.below hb).mono (B' := udq.heap.size) hb.size)
          have HA_a2_udq := Lib.hid ((HA_a2_ucq.out.below hb).mono (B' := udq.heap.size) hb.size)
          have HA_l1_udq := Lib.hid ((HA_l1_ucq.out.below hb).mono (B' := udq.heap.size) hb.size)
          have HA_l2_udq := Lib.hid ((HA_l2_ucq.out.below hb).mono (B' := udq.heap.size) hb.size)
          have HA_h1_udq := Lib.hid ((HA_h1_ucq.out.below hb).mono (B' := udq.heap.size) hb.size)
          have HA_h2_udq := Lib.hid ((HA_h2_ucq.out.below hb).mono (B' := udq.heap.size) hb.size)
          have HA_n1_udq := Lib.hid ((HA_n1_ucq.out.below hb).mono (B' := udq.heap.size) hb.size)
          have HA_n2_udq := Lib.hid ((HA_n2_ucq.out.below hb).mono (B' := udq.heap.size) hb.size)
          have HA_g1_udq := Lib.hid ((HA_g1_ucq.out.below hb).mono (B' := udq.heap.size) hb.size)
          have HA_u1_udq := Lib.hid ((HA_u1_ucq.out.below hb).mono (B' := udq.heap.size) hb.size)
          have HA_v1_udq := Lib.hid ((HA_v1_ucq.out.below hb).mono (B' := udq.heap.size) hb.size)
          have HG_udq := Lib.hid (hG.below HB_udq.out h5)
          clear HB_ucq HG_ucq BX_r_ucq BX_n_ucq BX_a1_ucq BX_a2_ucq BX_l1_ucq BX_l2_ucq BX_h1_ucq BX_h2_ucq BX_n1_ucq BX_n2_ucq BX_g1_ucq BX_u1_ucq BX_v1_ucq HA_v_ucq HA_l_ucq HA_a1_ucq HA_a2_ucq HA_l1_ucq HA_l2_ucq HA_h1_ucq HA_h2_ucq HA_n1_ucq HA_n2_ucq HA_g1_ucq HA_u1_ucq HA_v1_ucq 
          clear hb
          go_wp2_with fail
          refine bodyPost_ret (v := .bool true) (by simp [results, Tryz.results3, go_sem]) rfl ?_
          exact ⟨rfl, HB_udq.out⟩
        · go_wp2_with fail
          refine bodyPost_ret (v := .bool true) (by simp [results, Tryz.results3, go_sem]) rfl ?_
          exact ⟨rfl, HB_ucq.out⟩
end Go.Proofs.YtinkdjeanjhkbaaGreatDoor
