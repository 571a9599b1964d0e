/-
  The walk of ImageFormats.
-/
import Derived.Test.YtinkdjeanjhkbaaDoorZ
namespace Go.Proofs.YtinkdjeanjhkbaaDoor
open Go.RowKit
attribute [local go_sem] size_mkB

theorem format_ok {room : Int} {F : List UInt8} (hr : 1000 ≤ room ∧ room ≤ 6000000) (hF : (F.length : Int) ≤ room) : actedR (rib room F []) [keepAct 0 0, fastAct, addAct (mkB (bytesL 0 [])), fastAct] = (rib room (bytesL 0 []) [], true) := by
  have hl := len0
  simp only [actedR]
  rw [actR_of (rib_valid0 hr hF), actsFrom_cons (step_keep hr hF (by decide) (by decide) (by omega)), actsFrom_cons (step_fast_keep _ _ _ _)]
  have e : (F.drop (0 : Int).toNat).take ((0 : Int).toNat - (0 : Int).toNat) = [] := by simp
  rw [e, actsFrom_cons (step_add hr (by omega) (by simp; omega)), actsFrom_cons (step_fast_add _ _ _)]
  rfl

theorem putOut_some {w w' : World} {o : Int ⊕ List RAct} {e : Ending} (h : PutOut w o e w') : Below w.heap.size w w' ∧ ∃ (u : Value) (f : Int), e = .returned (.tuple #[u, .int .i64 f]) := by
  obtain ⟨hb, he⟩ := h
  refine ⟨hb, ?_⟩
  cases o with
  | inl er => exact ⟨_, er, he⟩
  | inr l =>
    obtain ⟨Ap, cp, rfl, _⟩ := he
    exact ⟨_, 0, rfl⟩

set_option maxHeartbeats 6400000 in
set_option maxRecDepth 100000 in
theorem formats_inv (r : Rib) (A : Option Addr) (cap : Nat) (text : ByteArray) (w : World) (hv : ActsIn w.heap.size w (.slice A r.acts.length cap) r.acts) (hG : G w) (hval : ¬ r.valid) :
    Calls Tryd.prog 5 #[.agg #[.int .i64 r.room, .string r.fast, .slice A r.acts.length cap], .string text] w fun e w' => e = .returned (.bool true) ∧ Below w.heap.size w w' := by
  have h5 := hG.low
  have HCK := Lib.hid (chk_bad hval)
  have HFR : Hid (formatR r = .inl 260) := by unfold formatR; exact if_neg (fun h => hval h.1)
  have HPR : Hid (PutR r text = .inl 260) := by unfold PutR; exact if_neg hval
  clear hval
  obtain ⟨X0, hX0⟩ : ∃ X0, w.alloc (.cells #[.int .i64 r.room, .string r.fast, .slice A r.acts.length cap] 27) = X0 := ⟨_, rfl⟩
  have hbx : Below w.heap.size w X0 := by rw [← hX0]; exact (Below.refl _ _).alloc (Nat.le_refl _) _
  have HB_X0 := Lib.hid hbx
  have HG_X0 := Lib.hid (hG.below HB_X0.out h5)
  have BX_r_X0 : Hid (X0.heap[w.heap.size]? = some (.cells #[.int .i64 r.room, .string r.fast, .slice A r.acts.length cap] 27 (0, 0))) := by rw [← hX0]; exact heap_alloc_new _ _
  have HX0 := Lib.hid hX0
  clear hbx hX0
  have hbx : Below w.heap.size w X0 := HB_X0.out
  have HA_r_X0 := Lib.hid ((hv.below hbx).mono (B' := X0.heap.size) hbx.size)
  clear hbx hv
  go_enter Tryd.func5, Tryd.ntmps5
  go_wp2_with fail
  rw [HX0.out]
  refine (sane_any _ HG_X0.out).mono ?_
  rintro e w1 ⟨rfl, hb⟩
  have HB_w1 := Lib.hid (HB_X0.out.trans (hb.mono HB_X0.out.size))
  have BX_r_w1 := Lib.hid ((hb.block _ (Array.getElem?_eq_some_iff.1 BX_r_X0.out).1).trans BX_r_X0.out)
  have HA_r_w1 := Lib.hid ((HA_r_X0.out.below hb).mono (B' := w1.heap.size) hb.size)
  have HG_w1 := Lib.hid (hG.below HB_w1.out h5)
  clear hb
  have e_r0 : w1.cell? ⟨w.heap.size, 0, none⟩ = some (.int .i64 r.room) := Lib.cell_of_heap BX_r_w1.out 0
  have e_r1 : w1.cell? ⟨w.heap.size, 1, none⟩ = some (.string r.fast) := Lib.cell_of_heap BX_r_w1.out 1
  have e_r2 : w1.cell? ⟨w.heap.size, 2, none⟩ = some (.slice A r.acts.length cap) := Lib.cell_of_heap BX_r_w1.out 2
  have z_r : w.heap.size < w1.heap.size := (Array.getElem?_eq_some_iff.1 BX_r_w1.out).1
  go_wp2_with fail
  refine (format_any r _ _ HA_r_w1.out HG_w1.out).mono ?_
  rintro e w2 ⟨hb, he⟩
  rw [HFR.out] at he
  simp only at he
  subst he
  clear e_r0 e_r1 e_r2 z_r
  have HB_w2 := Lib.hid (HB_w1.out.trans (hb.mono HB_w1.out.size))
  have BX_r_w2 := Lib.hid ((hb.block _ (Array.getElem?_eq_some_iff.1 BX_r_w1.out).1).trans BX_r_w1.out)
  have HA_r_w2 := Lib.hid ((HA_r_w1.out.below hb).mono (B' := w2.heap.size) hb.size)
  have HG_w2 := Lib.hid (hG.below HB_w2.out h5)
  clear hb
  have e_r0 : w2.cell? ⟨w.heap.size, 0, none⟩ = some (.int .i64 r.room) := Lib.cell_of_heap BX_r_w2.out 0
  have e_r1 : w2.cell? ⟨w.heap.size, 1, none⟩ = some (.string r.fast) := Lib.cell_of_heap BX_r_w2.out 1
  have e_r2 : w2.cell? ⟨w.heap.size, 2, none⟩ = some (.slice A r.acts.length cap) := Lib.cell_of_heap BX_r_w2.out 2
  have z_r : w.heap.size < w2.heap.size := (Array.getElem?_eq_some_iff.1 BX_r_w2.out).1
  go_wp2_with fail
  refine (Put_any r _ text _ HA_r_w2.out HG_w2.out).mono ?_
  rintro e w3 ⟨hb, he⟩
  rw [HPR.out] at he
  simp only at he
  subst he
  clear e_r0 e_r1 e_r2 z_r
  have HB_w3 := Lib.hid (HB_w2.out.trans (hb.mono HB_w2.out.size))
  have BX_r_w3 := Lib.hid ((hb.block _ (Array.getElem?_eq_some_iff.1 BX_r_w2.out).1).trans BX_r_w2.out)
  have HA_r_w3 := Lib.hid ((HA_r_w2.out.below hb).mono (B' := w3.heap.size) hb.size)
  have HG_w3 := Lib.hid (hG.below HB_w3.out h5)
  clear hb
  have e_r0 : w3.cell? ⟨w.heap.size, 0, none⟩ = some (.int .i64 r.room) := Lib.cell_of_heap BX_r_w3.out 0
  have e_r1 : w3.cell? ⟨w.heap.size, 1, none⟩ = some (.string r.fast) := Lib.cell_of_heap BX_r_w3.out 1
  have e_r2 : w3.cell? ⟨w.heap.size, 2, none⟩ = some (.slice A r.acts.length cap) := Lib.cell_of_heap BX_r_w3.out 2
  have z_r : w.heap.size < w3.heap.size := (Array.getElem?_eq_some_iff.1 BX_r_w3.out).1
  go_wp2_with fail
  refine (check_any r.room r.fast _ r.acts _ HA_r_w3.out).mono ?_
  rintro e w4 ⟨rfl, hb⟩
  rw [HCK.out]
  clear e_r0 e_r1 e_r2 z_r
  have HB_w4 := Lib.hid (HB_w3.out.trans (hb.mono HB_w3.out.size))
  have BX_r_w4 := Lib.hid ((hb.block _ (Array.getElem?_eq_some_iff.1 BX_r_w3.out).1).trans BX_r_w3.out)
  have HA_r_w4 := Lib.hid ((HA_r_w3.out.below hb).mono (B' := w4.heap.size) hb.size)
  have HG_w4 := Lib.hid (hG.below HB_w4.out h5)
  clear hb
  have e_r0 : w4.cell? ⟨w.heap.size, 0, none⟩ = some (.int .i64 r.room) := Lib.cell_of_heap BX_r_w4.out 0
  have e_r1 : w4.cell? ⟨w.heap.size, 1, none⟩ = some (.string r.fast) := Lib.cell_of_heap BX_r_w4.out 1
  have e_r2 : w4.cell? ⟨w.heap.size, 2, none⟩ = some (.slice A r.acts.length cap) := Lib.cell_of_heap BX_r_w4.out 2
  have z_r : w.heap.size < w4.heap.size := (Array.getElem?_eq_some_iff.1 BX_r_w4.out).1
  go_wp2_with fail
  refine (check_any r.room r.fast _ r.acts _ HA_r_w4.out).mono ?_
  rintro e w5 ⟨rfl, hb⟩
  rw [HCK.out]
  clear e_r0 e_r1 e_r2 z_r
  have HB_w5 := Lib.hid (HB_w4.out.trans (hb.mono HB_w4.out.size))
  have BX_r_w5 := Lib.hid ((hb.block _ (Array.getElem?_eq_some_iff.1 BX_r_w4.out).1).trans BX_r_w4.out)
  have HA_r_w5 := Lib.hid ((HA_r_w4.out.below hb).mono (B' := w5.heap.size) hb.size)
  have HG_w5 := Lib.hid (hG.below HB_w5.out h5)
  clear hb
  have e_r0 : w5.cell? ⟨w.heap.size, 0, none⟩ = some (.int .i64 r.room) := Lib.cell_of_heap BX_r_w5.out 0
  have e_r1 : w5.cell? ⟨w.heap.size, 1, none⟩ = some (.string r.fast) := Lib.cell_of_heap BX_r_w5.out 1
  have e_r2 : w5.cell? ⟨w.heap.size, 2, none⟩ = some (.slice A r.acts.length cap) := Lib.cell_of_heap BX_r_w5.out 2
  have z_r : w.heap.size < w5.heap.size := (Array.getElem?_eq_some_iff.1 BX_r_w5.out).1
  go_wp2_with fail
  go_ret
  exact ⟨rfl, HB_w5.out⟩

set_option maxHeartbeats 6400000 in
set_option maxRecDepth 100000 in
theorem formats_lrg (r : Rib) (A : Option Addr) (cap : Nat) (text : ByteArray) (w : World) (hv : ActsIn w.heap.size w (.slice A r.acts.length cap) r.acts) (hG : G w) (hval : r.valid) (hn : ¬ r.acts.length = 0) (ht : 2000000 < text.size) :
    Calls Tryd.prog 5 #[.agg #[.int .i64 r.room, .string r.fast, .slice A r.acts.length cap], .string text] w fun e w' => e = .returned (.bool true) ∧ Below w.heap.size w w' := by
  have h5 := hG.low
  have HCK : Hid (checkR r.room r.fast r.acts = 0) := Lib.hid hval
  have HFR : Hid (formatR r = .inl 260) := by unfold formatR; exact if_neg (fun h => hn h.2)
  have HPR : Hid (PutR r text = .inl 7) := by show PutR r text = .inl 7; unfold PutR; rw [if_pos hval, if_pos ht]
  have hn' : (0 : Int) < r.acts.length := by omega
  have ht' : (2000000 : Int) < text.size := by omega
  clear hval hn ht
  obtain ⟨X0, hX0⟩ : ∃ X0, w.alloc (.cells #[.int .i64 r.room, .string r.fast, .slice A r.acts.length cap] 27) = X0 := ⟨_, rfl⟩
  have hbx : Below w.heap.size w X0 := by rw [← hX0]; exact (Below.refl _ _).alloc (Nat.le_refl _) _
  have HB_X0 := Lib.hid hbx
  have HG_X0 := Lib.hid (hG.below HB_X0.out h5)
  have BX_r_X0 : Hid (X0.heap[w.heap.size]? = some (.cells #[.int .i64 r.room, .string r.fast, .slice A r.acts.length cap] 27 (0, 0))) := by rw [← hX0]; exact heap_alloc_new _ _
  have HX0 := Lib.hid hX0
  clear hbx hX0
  have hbx : Below w.heap.size w X0 := HB_X0.out
  have HA_r_X0 := Lib.hid ((hv.below hbx).mono (B' := X0.heap.size) hbx.size)
  clear hbx hv
  go_enter Tryd.func5, Tryd.ntmps5
  go_wp2_with fail
  rw [HX0.out]
  refine (sane_any _ HG_X0.out).mono ?_
  rintro e w1 ⟨rfl, hb⟩
  have HB_w1 := Lib.hid (HB_X0.out.trans (hb.mono HB_X0.out.size))
  have BX_r_w1 := Lib.hid ((hb.block _ (Array.getElem?_eq_some_iff.1 BX_r_X0.out).1).trans BX_r_X0.out)
  have HA_r_w1 := Lib.hid ((HA_r_X0.out.below hb).mono (B' := w1.heap.size) hb.size)
  have HG_w1 := Lib.hid (hG.below HB_w1.out h5)
  clear hb
  have e_r0 : w1.cell? ⟨w.heap.size, 0, none⟩ = some (.int .i64 r.room) := Lib.cell_of_heap BX_r_w1.out 0
  have e_r1 : w1.cell? ⟨w.heap.size, 1, none⟩ = some (.string r.fast) := Lib.cell_of_heap BX_r_w1.out 1
  have e_r2 : w1.cell? ⟨w.heap.size, 2, none⟩ = some (.slice A r.acts.length cap) := Lib.cell_of_heap BX_r_w1.out 2
  have z_r : w.heap.size < w1.heap.size := (Array.getElem?_eq_some_iff.1 BX_r_w1.out).1
  go_wp2_with fail
  refine (format_any r _ _ HA_r_w1.out HG_w1.out).mono ?_
  rintro e w2 ⟨hb, he⟩
  rw [HFR.out] at he
  simp only at he
  subst he
  clear e_r0 e_r1 e_r2 z_r
  have HB_w2 := Lib.hid (HB_w1.out.trans (hb.mono HB_w1.out.size))
  have BX_r_w2 := Lib.hid ((hb.block _ (Array.getElem?_eq_some_iff.1 BX_r_w1.out).1).trans BX_r_w1.out)
  have HA_r_w2 := Lib.hid ((HA_r_w1.out.below hb).mono (B' := w2.heap.size) hb.size)
  have HG_w2 := Lib.hid (hG.below HB_w2.out h5)
  clear hb
  have e_r0 : w2.cell? ⟨w.heap.size, 0, none⟩ = some (.int .i64 r.room) := Lib.cell_of_heap BX_r_w2.out 0
  have e_r1 : w2.cell? ⟨w.heap.size, 1, none⟩ = some (.string r.fast) := Lib.cell_of_heap BX_r_w2.out 1
  have e_r2 : w2.cell? ⟨w.heap.size, 2, none⟩ = some (.slice A r.acts.length cap) := Lib.cell_of_heap BX_r_w2.out 2
  have z_r : w.heap.size < w2.heap.size := (Array.getElem?_eq_some_iff.1 BX_r_w2.out).1
  go_wp2_with fail
  refine (Put_any r _ text _ HA_r_w2.out HG_w2.out).mono ?_
  rintro e w3 ⟨hb, he⟩
  rw [HPR.out] at he
  simp only at he
  subst he
  clear e_r0 e_r1 e_r2 z_r
  have HB_w3 := Lib.hid (HB_w2.out.trans (hb.mono HB_w2.out.size))
  have BX_r_w3 := Lib.hid ((hb.block _ (Array.getElem?_eq_some_iff.1 BX_r_w2.out).1).trans BX_r_w2.out)
  have HA_r_w3 := Lib.hid ((HA_r_w2.out.below hb).mono (B' := w3.heap.size) hb.size)
  have HG_w3 := Lib.hid (hG.below HB_w3.out h5)
  clear hb
  have e_r0 : w3.cell? ⟨w.heap.size, 0, none⟩ = some (.int .i64 r.room) := Lib.cell_of_heap BX_r_w3.out 0
  have e_r1 : w3.cell? ⟨w.heap.size, 1, none⟩ = some (.string r.fast) := Lib.cell_of_heap BX_r_w3.out 1
  have e_r2 : w3.cell? ⟨w.heap.size, 2, none⟩ = some (.slice A r.acts.length cap) := Lib.cell_of_heap BX_r_w3.out 2
  have z_r : w.heap.size < w3.heap.size := (Array.getElem?_eq_some_iff.1 BX_r_w3.out).1
  go_wp2_with fail
  refine (check_any r.room r.fast _ r.acts _ HA_r_w3.out).mono ?_
  rintro e w4 ⟨rfl, hb⟩
  rw [HCK.out]
  clear e_r0 e_r1 e_r2 z_r
  have HB_w4 := Lib.hid (HB_w3.out.trans (hb.mono HB_w3.out.size))
  have BX_r_w4 := Lib.hid ((hb.block _ (Array.getElem?_eq_some_iff.1 BX_r_w3.out).1).trans BX_r_w3.out)
  have HA_r_w4 := Lib.hid ((HA_r_w3.out.below hb).mono (B' := w4.heap.size) hb.size)
  have HG_w4 := Lib.hid (hG.below HB_w4.out h5)
  clear hb
  have e_r0 : w4.cell? ⟨w.heap.size, 0, none⟩ = some (.int .i64 r.room) := Lib.cell_of_heap BX_r_w4.out 0
  have e_r1 : w4.cell? ⟨w.heap.size, 1, none⟩ = some (.string r.fast) := Lib.cell_of_heap BX_r_w4.out 1
  have e_r2 : w4.cell? ⟨w.heap.size, 2, none⟩ = some (.slice A r.acts.length cap) := Lib.cell_of_heap BX_r_w4.out 2
  have z_r : w.heap.size < w4.heap.size := (Array.getElem?_eq_some_iff.1 BX_r_w4.out).1
  go_wp2_with fail
  refine (check_any r.room r.fast _ r.acts _ HA_r_w4.out).mono ?_
  rintro e w5 ⟨rfl, hb⟩
  rw [HCK.out]
  clear e_r0 e_r1 e_r2 z_r
  have HB_w5 := Lib.hid (HB_w4.out.trans (hb.mono HB_w4.out.size))
  have BX_r_w5 := Lib.hid ((hb.block _ (Array.getElem?_eq_some_iff.1 BX_r_w4.out).1).trans BX_r_w4.out)
  have HA_r_w5 := Lib.hid ((HA_r_w4.out.below hb).mono (B' := w5.heap.size) hb.size)
  have HG_w5 := Lib.hid (hG.below HB_w5.out h5)
  clear hb
  have e_r0 : w5.cell? ⟨w.heap.size, 0, none⟩ = some (.int .i64 r.room) := Lib.cell_of_heap BX_r_w5.out 0
  have e_r1 : w5.cell? ⟨w.heap.size, 1, none⟩ = some (.string r.fast) := Lib.cell_of_heap BX_r_w5.out 1
  have e_r2 : w5.cell? ⟨w.heap.size, 2, none⟩ = some (.slice A r.acts.length cap) := Lib.cell_of_heap BX_r_w5.out 2
  have z_r : w.heap.size < w5.heap.size := (Array.getElem?_eq_some_iff.1 BX_r_w5.out).1
  go_wp2_with fail
  go_ret
  exact ⟨rfl, HB_w5.out⟩

set_option maxHeartbeats 6400000 in
set_option maxRecDepth 100000 in
theorem formats_sml (r : Rib) (A : Option Addr) (cap : Nat) (text : ByteArray) (w : World) (hv : ActsIn w.heap.size w (.slice A r.acts.length cap) r.acts) (hG : G w) (hval : r.valid) (hn : ¬ r.acts.length = 0) (ht : ¬ 2000000 < text.size) :
    Calls Tryd.prog 5 #[.agg #[.int .i64 r.room, .string r.fast, .slice A r.acts.length cap], .string text] w fun e w' => e = .returned (.bool true) ∧ Below w.heap.size w w' := by
  have h5 := hG.low
  have HCK : Hid (checkR r.room r.fast r.acts = 0) := Lib.hid hval
  have HFR : Hid (formatR r = .inl 260) := by unfold formatR; exact if_neg (fun h => hn h.2)
  have HPR : Hid (PutR r text = .inl 260) := by show PutR r text = .inl 260; unfold PutR; rw [if_pos hval, if_neg ht, if_neg hn]
  have hn' : (0 : Int) < r.acts.length := by omega
  have ht' : ¬ (2000000 : Int) < text.size := by omega
  clear hval hn ht
  obtain ⟨X0, hX0⟩ : ∃ X0, w.alloc (.cells #[.int .i64 r.room, .string r.fast, .slice A r.acts.length cap] 27) = X0 := ⟨_, rfl⟩
  have hbx : Below w.heap.size w X0 := by rw [← hX0]; exact (Below.refl _ _).alloc (Nat.le_refl _) _
  have HB_X0 := Lib.hid hbx
  have HG_X0 := Lib.hid (hG.below HB_X0.out h5)
  have BX_r_X0 : Hid (X0.heap[w.heap.size]? = some (.cells #[.int .i64 r.room, .string r.fast, .slice A r.acts.length cap] 27 (0, 0))) := by rw [← hX0]; exact heap_alloc_new _ _
  have HX0 := Lib.hid hX0
  clear hbx hX0
  have hbx : Below w.heap.size w X0 := HB_X0.out
  have HA_r_X0 := Lib.hid ((hv.below hbx).mono (B' := X0.heap.size) hbx.size)
  clear hbx hv
  go_enter Tryd.func5, Tryd.ntmps5
  go_wp2_with fail
  rw [HX0.out]
  refine (sane_any _ HG_X0.out).mono ?_
  rintro e w1 ⟨rfl, hb⟩
  have HB_w1 := Lib.hid (HB_X0.out.trans (hb.mono HB_X0.out.size))
  have BX_r_w1 := Lib.hid ((hb.block _ (Array.getElem?_eq_some_iff.1 BX_r_X0.out).1).trans BX_r_X0.out)
  have HA_r_w1 := Lib.hid ((HA_r_X0.out.below hb).mono (B' := w1.heap.size) hb.size)
  have HG_w1 := Lib.hid (hG.below HB_w1.out h5)
  clear hb
  have e_r0 : w1.cell? ⟨w.heap.size, 0, none⟩ = some (.int .i64 r.room) := Lib.cell_of_heap BX_r_w1.out 0
  have e_r1 : w1.cell? ⟨w.heap.size, 1, none⟩ = some (.string r.fast) := Lib.cell_of_heap BX_r_w1.out 1
  have e_r2 : w1.cell? ⟨w.heap.size, 2, none⟩ = some (.slice A r.acts.length cap) := Lib.cell_of_heap BX_r_w1.out 2
  have z_r : w.heap.size < w1.heap.size := (Array.getElem?_eq_some_iff.1 BX_r_w1.out).1
  go_wp2_with fail
  refine (format_any r _ _ HA_r_w1.out HG_w1.out).mono ?_
  rintro e w2 ⟨hb, he⟩
  rw [HFR.out] at he
  simp only at he
  subst he
  clear e_r0 e_r1 e_r2 z_r
  have HB_w2 := Lib.hid (HB_w1.out.trans (hb.mono HB_w1.out.size))
  have BX_r_w2 := Lib.hid ((hb.block _ (Array.getElem?_eq_some_iff.1 BX_r_w1.out).1).trans BX_r_w1.out)
  have HA_r_w2 := Lib.hid ((HA_r_w1.out.below hb).mono (B' := w2.heap.size) hb.size)
  have HG_w2 := Lib.hid (hG.below HB_w2.out h5)
  clear hb
  have e_r0 : w2.cell? ⟨w.heap.size, 0, none⟩ = some (.int .i64 r.room) := Lib.cell_of_heap BX_r_w2.out 0
  have e_r1 : w2.cell? ⟨w.heap.size, 1, none⟩ = some (.string r.fast) := Lib.cell_of_heap BX_r_w2.out 1
  have e_r2 : w2.cell? ⟨w.heap.size, 2, none⟩ = some (.slice A r.acts.length cap) := Lib.cell_of_heap BX_r_w2.out 2
  have z_r : w.heap.size < w2.heap.size := (Array.getElem?_eq_some_iff.1 BX_r_w2.out).1
  go_wp2_with fail
  refine (Put_any r _ text _ HA_r_w2.out HG_w2.out).mono ?_
  rintro e w3 ⟨hb, he⟩
  rw [HPR.out] at he
  simp only at he
  subst he
  clear e_r0 e_r1 e_r2 z_r
  have HB_w3 := Lib.hid (HB_w2.out.trans (hb.mono HB_w2.out.size))
  have BX_r_w3 := Lib.hid ((hb.block _ (Array.getElem?_eq_some_iff.1 BX_r_w2.out).1).trans BX_r_w2.out)
  have HA_r_w3 := Lib.hid ((HA_r_w2.out.below hb).mono (B' := w3.heap.size) hb.size)
  have HG_w3 := Lib.hid (hG.below HB_w3.out h5)
  clear hb
  have e_r0 : w3.cell? ⟨w.heap.size, 0, none⟩ = some (.int .i64 r.room) := Lib.cell_of_heap BX_r_w3.out 0
  have e_r1 : w3.cell? ⟨w.heap.size, 1, none⟩ = some (.string r.fast) := Lib.cell_of_heap BX_r_w3.out 1
  have e_r2 : w3.cell? ⟨w.heap.size, 2, none⟩ = some (.slice A r.acts.length cap) := Lib.cell_of_heap BX_r_w3.out 2
  have z_r : w.heap.size < w3.heap.size := (Array.getElem?_eq_some_iff.1 BX_r_w3.out).1
  go_wp2_with fail
  refine (check_any r.room r.fast _ r.acts _ HA_r_w3.out).mono ?_
  rintro e w4 ⟨rfl, hb⟩
  rw [HCK.out]
  clear e_r0 e_r1 e_r2 z_r
  have HB_w4 := Lib.hid (HB_w3.out.trans (hb.mono HB_w3.out.size))
  have BX_r_w4 := Lib.hid ((hb.block _ (Array.getElem?_eq_some_iff.1 BX_r_w3.out).1).trans BX_r_w3.out)
  have HA_r_w4 := Lib.hid ((HA_r_w3.out.below hb).mono (B' := w4.heap.size) hb.size)
  have HG_w4 := Lib.hid (hG.below HB_w4.out h5)
  clear hb
  have e_r0 : w4.cell? ⟨w.heap.size, 0, none⟩ = some (.int .i64 r.room) := Lib.cell_of_heap BX_r_w4.out 0
  have e_r1 : w4.cell? ⟨w.heap.size, 1, none⟩ = some (.string r.fast) := Lib.cell_of_heap BX_r_w4.out 1
  have e_r2 : w4.cell? ⟨w.heap.size, 2, none⟩ = some (.slice A r.acts.length cap) := Lib.cell_of_heap BX_r_w4.out 2
  have z_r : w.heap.size < w4.heap.size := (Array.getElem?_eq_some_iff.1 BX_r_w4.out).1
  go_wp2_with fail
  refine (check_any r.room r.fast _ r.acts _ HA_r_w4.out).mono ?_
  rintro e w5 ⟨rfl, hb⟩
  rw [HCK.out]
  clear e_r0 e_r1 e_r2 z_r
  have HB_w5 := Lib.hid (HB_w4.out.trans (hb.mono HB_w4.out.size))
  have BX_r_w5 := Lib.hid ((hb.block _ (Array.getElem?_eq_some_iff.1 BX_r_w4.out).1).trans BX_r_w4.out)
  have HA_r_w5 := Lib.hid ((HA_r_w4.out.below hb).mono (B' := w5.heap.size) hb.size)
  have HG_w5 := Lib.hid (hG.below HB_w5.out h5)
  clear hb
  have e_r0 : w5.cell? ⟨w.heap.size, 0, none⟩ = some (.int .i64 r.room) := Lib.cell_of_heap BX_r_w5.out 0
  have e_r1 : w5.cell? ⟨w.heap.size, 1, none⟩ = some (.string r.fast) := Lib.cell_of_heap BX_r_w5.out 1
  have e_r2 : w5.cell? ⟨w.heap.size, 2, none⟩ = some (.slice A r.acts.length cap) := Lib.cell_of_heap BX_r_w5.out 2
  have z_r : w.heap.size < w5.heap.size := (Array.getElem?_eq_some_iff.1 BX_r_w5.out).1
  go_wp2_with fail
  go_ret
  exact ⟨rfl, HB_w5.out⟩

set_option maxHeartbeats 6400000 in
set_option maxRecDepth 100000 in
theorem formats_ok (room : Int) (fast : ByteArray) (A : Option Addr) (cap : Nat) (text : ByteArray) (w : World) (hv : ActsIn w.heap.size w (.slice A 0 cap) []) (hG : G w) (hval : (⟨room, fast, []⟩ : Rib).valid) :
    Calls Tryd.prog 5 #[.agg #[.int .i64 room, .string fast, .slice A 0 cap], .string text] w fun e w' => e = .returned (.bool true) ∧ Below w.heap.size w w' := by
  have h5 := hG.low
  have HCK : Hid (checkR room fast [] = 0) := Lib.hid hval
  have hvi := (valid_iff _ _ _).1 hval
  have HR : Hid (1000 ≤ room ∧ room ≤ 6000000) := ⟨hvi.1, hvi.2.1⟩
  have HFR : Hid (formatR ⟨room, fast, []⟩ = .inr [keepAct 0 0, fastAct, addAct (mkB (bytesL 0 [])), fastAct]) := by show formatR ⟨room, fast, []⟩ = _; unfold formatR; rw [if_pos ⟨hval, rfl⟩]
  have HFO : Hid (actedR ⟨room, fast, []⟩ [keepAct 0 0, fastAct, addAct (mkB (bytesL 0 [])), fastAct] = (rib room (bytesL 0 []) [], true)) := by
    have h := format_ok (F := bl fast) HR.out (by rw [← size_bl]; exact hvi.2.2.1)
    have e : rib room (bl fast) [] = ⟨room, fast, []⟩ := by unfold rib; rw [mk_bl]
    rwa [e] at h
  clear hvi hval
  obtain ⟨X0, hX0⟩ : ∃ X0, w.alloc (.cells #[.int .i64 room, .string fast, .slice A 0 cap] 27) = X0 := ⟨_, rfl⟩
  have hbx : Below w.heap.size w X0 := by rw [← hX0]; exact (Below.refl _ _).alloc (Nat.le_refl _) _
  have HB_X0 := Lib.hid hbx
  have HG_X0 := Lib.hid (hG.below HB_X0.out h5)
  have BX_r_X0 : Hid (X0.heap[w.heap.size]? = some (.cells #[.int .i64 room, .string fast, .slice A 0 cap] 27 (0, 0))) := by rw [← hX0]; exact heap_alloc_new _ _
  have HX0 := Lib.hid hX0
  clear hbx hX0
  have hbx : Below w.heap.size w X0 := HB_X0.out
  have HA_r_X0 := Lib.hid ((hv.below hbx).mono (B' := X0.heap.size) hbx.size)
  clear hbx hv
  go_enter Tryd.func5, Tryd.ntmps5
  go_wp2_with fail
  rw [HX0.out]
  refine (sane_any _ HG_X0.out).mono ?_
  rintro e w1 ⟨rfl, hb⟩
  have HB_w1 := Lib.hid (HB_X0.out.trans (hb.mono HB_X0.out.size))
  have BX_r_w1 := Lib.hid ((hb.block _ (Array.getElem?_eq_some_iff.1 BX_r_X0.out).1).trans BX_r_X0.out)
  have HA_r_w1 := Lib.hid ((HA_r_X0.out.below hb).mono (B' := w1.heap.size) hb.size)
  have HG_w1 := Lib.hid (hG.below HB_w1.out h5)
  clear hb
  have e_r0 : w1.cell? ⟨w.heap.size, 0, none⟩ = some (.int .i64 room) := Lib.cell_of_heap BX_r_w1.out 0
  have e_r1 : w1.cell? ⟨w.heap.size, 1, none⟩ = some (.string fast) := Lib.cell_of_heap BX_r_w1.out 1
  have e_r2 : w1.cell? ⟨w.heap.size, 2, none⟩ = some (.slice A 0 cap) := Lib.cell_of_heap BX_r_w1.out 2
  have z_r : w.heap.size < w1.heap.size := (Array.getElem?_eq_some_iff.1 BX_r_w1.out).1
  go_wp2_with fail
  refine (format_any ⟨room, fast, []⟩ _ _ HA_r_w1.out HG_w1.out).mono ?_
  rintro e w2 ⟨hb, he⟩
  rw [HFR.out] at he
  obtain ⟨Al, cl, rfl, HL⟩ := he
  clear e_r0 e_r1 e_r2 z_r
  have HB_w2 := Lib.hid (HB_w1.out.trans (hb.mono HB_w1.out.size))
  have BX_r_w2 := Lib.hid ((hb.block _ (Array.getElem?_eq_some_iff.1 BX_r_w1.out).1).trans BX_r_w1.out)
  have HA_r_w2 := Lib.hid ((HA_r_w1.out.below hb).mono (B' := w2.heap.size) hb.size)
  have HG_w2 := Lib.hid (hG.below HB_w2.out h5)
  clear hb
  have hl := OwnActs.reads HL.out
  clear HL
  have HA_l_w2 := Lib.hid hl
  clear hl
  have e_r0 : w2.cell? ⟨w.heap.size, 0, none⟩ = some (.int .i64 room) := Lib.cell_of_heap BX_r_w2.out 0
  have e_r1 : w2.cell? ⟨w.heap.size, 1, none⟩ = some (.string fast) := Lib.cell_of_heap BX_r_w2.out 1
  have e_r2 : w2.cell? ⟨w.heap.size, 2, none⟩ = some (.slice A 0 cap) := Lib.cell_of_heap BX_r_w2.out 2
  have z_r : w.heap.size < w2.heap.size := (Array.getElem?_eq_some_iff.1 BX_r_w2.out).1
  go_wp2_with fail
  refine (Put_any ⟨room, fast, []⟩ _ text _ HA_r_w2.out HG_w2.out).mono ?_
  rintro e w3 he
  obtain ⟨hb, u, f, rfl⟩ := putOut_some he
  clear he
  clear e_r0 e_r1 e_r2 z_r
  have HB_w3 := Lib.hid (HB_w2.out.trans (hb.mono HB_w2.out.size))
  have BX_r_w3 := Lib.hid ((hb.block _ (Array.getElem?_eq_some_iff.1 BX_r_w2.out).1).trans BX_r_w2.out)
  have HA_r_w3 := Lib.hid ((HA_r_w2.out.below hb).mono (B' := w3.heap.size) hb.size)
  have HA_l_w3 := Lib.hid ((HA_l_w2.out.below hb).mono (B' := w3.heap.size) hb.size)
  have HG_w3 := Lib.hid (hG.below HB_w3.out h5)
  clear hb
  have e_r0 : w3.cell? ⟨w.heap.size, 0, none⟩ = some (.int .i64 room) := Lib.cell_of_heap BX_r_w3.out 0
  have e_r1 : w3.cell? ⟨w.heap.size, 1, none⟩ = some (.string fast) := Lib.cell_of_heap BX_r_w3.out 1
  have e_r2 : w3.cell? ⟨w.heap.size, 2, none⟩ = some (.slice A 0 cap) := Lib.cell_of_heap BX_r_w3.out 2
  have z_r : w.heap.size < w3.heap.size := (Array.getElem?_eq_some_iff.1 BX_r_w3.out).1
  go_wp2_with fail
  refine (check_any room fast _ [] _ HA_r_w3.out).mono ?_
  rintro e w4 ⟨rfl, hb⟩
  rw [HCK.out]
  clear e_r0 e_r1 e_r2 z_r
  have HB_w4 := Lib.hid (HB_w3.out.trans (hb.mono HB_w3.out.size))
  have BX_r_w4 := Lib.hid ((hb.block _ (Array.getElem?_eq_some_iff.1 BX_r_w3.out).1).trans BX_r_w3.out)
  have HA_r_w4 := Lib.hid ((HA_r_w3.out.below hb).mono (B' := w4.heap.size) hb.size)
  have HA_l_w4 := Lib.hid ((HA_l_w3.out.below hb).mono (B' := w4.heap.size) hb.size)
  have HG_w4 := Lib.hid (hG.below HB_w4.out h5)
  clear hb
  have e_r0 : w4.cell? ⟨w.heap.size, 0, none⟩ = some (.int .i64 room) := Lib.cell_of_heap BX_r_w4.out 0
  have e_r1 : w4.cell? ⟨w.heap.size, 1, none⟩ = some (.string fast) := Lib.cell_of_heap BX_r_w4.out 1
  have e_r2 : w4.cell? ⟨w.heap.size, 2, none⟩ = some (.slice A 0 cap) := Lib.cell_of_heap BX_r_w4.out 2
  have z_r : w.heap.size < w4.heap.size := (Array.getElem?_eq_some_iff.1 BX_r_w4.out).1
  go_wp2_with fail
  refine (acted_any ⟨room, fast, []⟩ _ _ 0 (.inr [keepAct 0 0, fastAct, addAct (mkB (bytesL 0 [])), fastAct]) _ HA_r_w4.out ⟨rfl, HA_l_w4.out⟩).mono ?_
  rintro e w5 ⟨A5, c5, ⟨ha, rfl⟩, hb⟩
  rw [show actedE ⟨room, fast, []⟩ (.inr [keepAct 0 0, fastAct, addAct (mkB (bytesL 0 [])), fastAct]) = (rib room (bytesL 0 []) [], true) from HFO.out] at ha ⊢
  clear e_r0 e_r1 e_r2 z_r
  have HB_w5 := Lib.hid (HB_w4.out.trans (hb.mono HB_w4.out.size))
  have BX_r_w5 := Lib.hid ((hb.block _ (Array.getElem?_eq_some_iff.1 BX_r_w4.out).1).trans BX_r_w4.out)
  have HA_r_w5 := Lib.hid ((HA_r_w4.out.below hb).mono (B' := w5.heap.size) hb.size)
  have HA_l_w5 := Lib.hid ((HA_l_w4.out.below hb).mono (B' := w5.heap.size) hb.size)
  have HG_w5 := Lib.hid (hG.below HB_w5.out h5)
  clear hb
  have HA_x_w5 := Lib.hid ha
  clear ha
  simp only [rib]
  go_wp2_with fail
  obtain ⟨Xc, hX⟩ : ∃ Xc, w5.alloc (.cells #[.int .i64 room, .string (mkB (bytesL 0 [])), .slice A5 0 c5] 27) = Xc := ⟨_, rfl⟩
  have hbx : Below w5.heap.size w5 Xc := by rw [← hX]; exact (Below.refl _ _).alloc (Nat.le_refl _) _
  have HB_Xc := Lib.hid (HB_w5.out.trans (hbx.mono HB_w5.out.size))
  have BX_r_Xc := Lib.hid ((hbx.block _ (Array.getElem?_eq_some_iff.1 BX_r_w5.out).1).trans BX_r_w5.out)
  have HA_r_Xc := Lib.hid ((HA_r_w5.out.below hbx).mono (B' := Xc.heap.size) hbx.size)
  have HA_l_Xc := Lib.hid ((HA_l_w5.out.below hbx).mono (B' := Xc.heap.size) hbx.size)
  have HA_x_Xc := Lib.hid ((HA_x_w5.out.below hbx).mono (B' := Xc.heap.size) hbx.size)
  have HG_Xc := Lib.hid (hG.below HB_Xc.out h5)
  have BX_x_Xc : Hid (Xc.heap[w5.heap.size]? = some (.cells #[.int .i64 room, .string (mkB (bytesL 0 [])), .slice A5 0 c5] 27 (0, 0))) := by rw [← hX]; exact heap_alloc_new _ _
  clear hbx
  rw [hX]
  clear hX
  refine (get_any (rib room (bytesL 0 []) []) _ _ HA_x_Xc.out HG_Xc.out).mono ?_
  rintro e w6 ⟨hb, he⟩
  rw [getR_ok HR.out (by rw [len0]; have := HR.out; omega) holds0] at he
  simp only at he
  subst he
  have HB_w6 := Lib.hid (HB_Xc.out.trans (hb.mono HB_Xc.out.size))
  have BX_r_w6 := Lib.hid ((hb.block _ (Array.getElem?_eq_some_iff.1 BX_r_Xc.out).1).trans BX_r_Xc.out)
  have BX_x_w6 := Lib.hid ((hb.block _ (Array.getElem?_eq_some_iff.1 BX_x_Xc.out).1).trans BX_x_Xc.out)
  have HA_r_w6 := Lib.hid ((HA_r_Xc.out.below hb).mono (B' := w6.heap.size) hb.size)
  have HA_l_w6 := Lib.hid ((HA_l_Xc.out.below hb).mono (B' := w6.heap.size) hb.size)
  have HA_x_w6 := Lib.hid ((HA_x_Xc.out.below hb).mono (B' := w6.heap.size) hb.size)
  have HG_w6 := Lib.hid (hG.below HB_w6.out h5)
  clear hb
  rw [show mkB [] = (⟨#[]⟩ : ByteArray) from rfl]
  go_wp2_with fail
  go_ret
  exact ⟨rfl, HB_w6.out⟩

theorem formats_any (r : Rib) (v : Value) (text : ByteArray) (w : World) (hv : ActsIn w.heap.size w v r.acts) (hG : G w) :
    Calls Tryd.prog 5 #[.agg #[.int .i64 r.room, .string r.fast, v], .string text] w fun e w' => e = .returned (.bool true) ∧ Below w.heap.size w w' := by
  have hv' := hv
  obtain ⟨A, cap, rfl, -, -, -⟩ := hv'
  by_cases hval : r.valid
  · by_cases hn : r.acts.length = 0
    · obtain ⟨room, fast, l⟩ := r
      obtain rfl : l = [] := List.length_eq_zero_iff.1 hn
      exact formats_ok room fast A cap text w hv hG hval
    · by_cases ht : 2000000 < text.size
      · exact formats_lrg r A cap text w hv hG hval hn ht
      · exact formats_sml r A cap text w hv hG hval hn ht
  · exact formats_inv r A cap text w hv hG hval
end Go.Proofs.YtinkdjeanjhkbaaDoor
