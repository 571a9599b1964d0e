/-
  The walks of image's functions on actions: kept, added, keep, add, Clone, New.
-/
import Derived.Test.YtinkdjeanjhkbaaGreatDoorC
namespace Go.Proofs.YtinkdjeanjhkbaaGreatDoor
open Go.RowKit
attribute [local go_sem] size_mkB

set_option maxHeartbeats 800000 in
set_option maxRecDepth 100000 in
theorem kept_any (room : Int) (fast : ByteArray) (v : Value) (l : List RAct) (w : World) (hl : ActsIn w.heap.size w v l) (hk : KeepOk fast l) (hf : fast.size ≤ 4611686018427387904) :
    Calls Tryz.prog 23 #[.agg #[.int .i64 room, .string fast, v]] w fun e w' => ∃ z : ByteArray, e = .returned (.string z) ∧ z.size ≤ fast.size ∧ Hid (bl z = keptL (bl fast) l) ∧ Below w.heap.size w w' := by
  obtain ⟨A, cap, rfl, hc, ⟨hcm, hcl⟩, hcells⟩ := hl
  cases l with
  | nil =>
    go_enter Tryz.func23, Tryz.ntmps23
    go_wp2
    go_ret
    exact ⟨_, rfl, Nat.le_refl _, rfl, (Below.refl _ _).alloc (Nat.le_refl _) _⟩
  | cons a l =>
    obtain ⟨b, o, rfl, hb, hall⟩ := hcells (by simp)
    obtain ⟨c0, c1, c2, c3⟩ := hall 0 (by simp)
    simp only [List.getD_cons_zero, Nat.zero_mul, Nat.add_zero] at c0 c1 c2 c3
    clear hall hcells
    have hpos : 0 < (a :: l).length := by simp
    generalize (a :: l).length = n at hc hpos
    by_cases h2 : a.kind = 2
    · obtain ⟨hk0, hk1, hk2⟩ := hk h2
      have hb2 : (a.kind == 2) = true := by simp [h2]
      have H2 := Lib.hid h2
      clear h2
      obtain ⟨p, hp⟩ := Int.eq_ofNat_of_zero_le hk0
      obtain ⟨q, hq⟩ := Int.eq_ofNat_of_zero_le (by omega : 0 ≤ a.to)
      rw [hp] at c2 hk0 hk1; rw [hq] at c3 hk1 hk2
      have HP := Lib.hid hp
      have HQ := Lib.hid hq
      clear hp hq
      go_enter Tryz.func23, Tryz.ntmps23
      go_wp2
      go_quiet (fail)
      go_wp2
      go_ret
      refine ⟨_, rfl, ?_, ?_, ?_⟩
      · rw [size_bl, bl_extract, size_bl]; simp; omega
      · simp only [Hid, keptL]; rw [if_pos H2.out, bl_extract, HP.out, HQ.out]; rfl
      · exact below_drewN ((Below.refl _ _).alloc (Nat.le_refl _) _) _
    · have hb2 : (a.kind == 2) = false := by simp [h2]
      have H2 := Lib.hid h2
      clear h2
      go_enter Tryz.func23, Tryz.ntmps23
      go_wp2
      go_ret
      exact ⟨_, rfl, Nat.le_refl _, by simp only [Hid, keptL]; rw [if_neg H2.out], (Below.refl _ _).alloc (Nat.le_refl _) _⟩

/-- the shelf's contract, laid through strings.Repeat's numbers -/
theorem write_string (B b : Nat) (bs : List Value) (s : ByteArray) (w : World) (h : Lib.IsBuilderF 78 5 B b bs w) (hlen : bs.length + s.size ≤ 140737488355328) (hBw : B ≤ w.heap.size) :
    Calls Tryz.prog 44 #[.pointer (some ⟨b, 0, none⟩), .string s] w fun e w' => e = .returned (.tuple #[.int .i64 s.size, .nilIface]) ∧ (Lib.BuilderAtF 78 5 B b (.pointer (some ⟨b, 0, none⟩)) (bs ++ Lib.strCells s) w' ∧ Below B w w') :=
  Any.Builder_WriteString_f { Tryz.lays105 with } Tryz.Builder_Extra_105 B b bs s w h hlen hBw

set_option maxHeartbeats 800000 in
set_option maxRecDepth 100000 in
theorem added_any (room : Int) (fast : ByteArray) (v : Value) (l : List RAct) (w : World) (hl : ActsIn w.heap.size w v l) (hk : (addedL l).length ≤ 100000000000) :
    Calls Tryz.prog 24 #[.agg #[.int .i64 room, .string fast, v]] w fun e w' => ∃ z : ByteArray, e = .returned (.string z) ∧ z.size ≤ 100000000000 ∧ Hid (bl z = addedL l) ∧ Below w.heap.size w w' := by
  obtain ⟨A, cap, rfl, hc, ⟨hcm, hcl⟩, hcells⟩ := hl
  have hf : ∀ k, Hid ((addedL (l.take k)).length ≤ (addedL l).length) := fun k => addedL_le l k
  have HK := Lib.hid hk
  clear hk
  go_enter Tryz.func24, Tryz.ntmps24
  go_wp2_with fail
  generalize hW : w.alloc (Obj.cells #[Value.int IntKind.i64 room, Value.string fast, Value.slice A l.length cap] 24) = W
  have hWs : W.heap.size = w.heap.size + 1 := by rw [← hW]; simp
  have hWb : Below w.heap.size w W := by rw [← hW]; exact (Below.refl _ _).alloc (Nat.le_refl _) _
  clear hW
  have HWs := Lib.hid hWs
  clear hWs
  go_loopw [9] (fun i wr => ∃ (k : Nat), k ≤ l.length ∧ i = .int .i64 k ∧ Hid (Lib.IsBuilderF 78 5 (w.heap.size + 1) (w.heap.size + 1) (Lib.byteCells (addedL (l.take k))) wr) ∧
        Hid (Below (w.heap.size + 1) W wr) ∧ w.heap.size + 1 < wr.heap.size)
      (fun i _ => l.length - (intOf i).toNat)
  case atStart => exact ⟨0, Nat.zero_le _, rfl, by rw [List.take_zero, ← HWs.out]; exact Lib.IsBuilderF.of (Lib.fresh_isBuilder _ _ _), (Below.refl _ _).alloc (by have := HWs.out; omega) _, by have := HWs.out; simp; omega⟩
  case round =>
    obtain ⟨k, hk, rfl, HI, HB, hsz⟩ := hrel
    obtain ⟨hcr, hfr⟩ := bcell HB.out
    obtain ⟨hcw, hfw⟩ := bcell hWb
    by_cases hlt : k < l.length
    · obtain ⟨b, o, rfl, hb, hall⟩ := hcells (by omega)
      obtain ⟨c0, c1, c2, c3⟩ := hall k hlt
      have hb2 : b < w.heap.size + 1 := by omega
      clear hall hcells
      have hst := Lib.hid (addedL_take l k hlt)
      have hle := hf (k + 1)
      generalize ha : l.getD k zAct = a at c0 c1 c2 c3 hst
      clear ha hf
      go_wp2_with fail
      refine (write_string (w.heap.size + 1) (w.heap.size + 1) _ _ _ (HI.out.alloc _) ?c1 ?c2).mono ?_
      case c1 => (have h1 := hle.out; rw [hst.out, List.length_append, ← size_bl] at h1; have := HK.out; rw [Lib.byteCells_length]; omega)
      case c2 => (simp; omega)
      rintro e w1 ⟨rfl, hI1, hb1⟩
      go_wp2_with fail
      go_roundw
      case rel => exact ⟨k + 1, by omega, by go_num, by simp only [Hid]; rw [hst.out, Lib.byteCells_append]; exact Or.inr hI1, (HB.out.alloc (by omega) _).trans hb1, by have := hb1.size; simp at this; omega⟩
      case measure => simp [intOf]; omega
    · go_wp2_with ((go_at_call 45; refine (Tryz.Builder_String_any_f (w.heap.size + 1) (w.heap.size + 1) _ _ HI.out (by omega)).mono ?_; rintro e w1 ⟨rfl, hI1, hb1⟩))
      go_ret
      have hk' : l.take k = l := List.take_of_length_le (by omega)
      refine ⟨mkB (addedL (l.take k)), rfl, ?_, ?_, hWb.trans ((HB.out.trans hb1).mono (by omega))⟩
      · rw [size_mkB, hk']; have := HK.out; omega
      · rw [hk']; exact bl_mk _
end Go.Proofs.YtinkdjeanjhkbaaGreatDoor
