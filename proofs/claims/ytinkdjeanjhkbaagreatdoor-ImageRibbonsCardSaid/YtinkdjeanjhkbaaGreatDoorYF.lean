/-
  The walk of the reference's Same, at ribbons that are equal.
-/
import Derived.Test.YtinkdjeanjhkbaaGreatDoorYD
namespace Go.Proofs.YtinkdjeanjhkbaaGreatDoor
open Go.RowKit
attribute [local go_sem] size_mkB

set_option maxHeartbeats 1600000 in
set_option maxRecDepth 100000 in
theorem rsame_yes (r : Rib) (u v : Value) (w : World) (hu : ActsIn w.heap.size w u r.acts) (hv : ActsIn w.heap.size w v r.acts) :
    Calls Tryz.prog 13 #[.agg #[.int .i64 r.room, .string r.fast, u], .agg #[.int .i64 r.room, .string r.fast, v]] w fun e w' => e = .returned (.bool true) ∧ Below w.heap.size w w' := by
  obtain ⟨A, cap, rfl, hc, ⟨hcm, hcl⟩, hcells⟩ := hu
  obtain ⟨A2, cap2, rfl, hc2, ⟨hcm2, hcl2⟩, hcells2⟩ := hv
  clear hcm hcm2
  have hlb : ((r.acts.length : Int) != (r.acts.length : Int)) = false := by simp
  go_enter Tryz.func13, Tryz.ntmps13
  go_wp2_with fail
  obtain ⟨W, hW⟩ : ∃ W, (w.alloc (Obj.cells #[Value.int IntKind.i64 r.room, Value.string r.fast, Value.slice A r.acts.length cap] 24)).alloc (Obj.cells #[Value.int IntKind.i64 r.room, Value.string r.fast, Value.slice A2 r.acts.length cap2] 24) = W := ⟨_, rfl⟩
  have hWb : Below w.heap.size w W := by rw [← hW]; exact ((Below.refl _ _).alloc (Nat.le_refl _) _).alloc (by simp) _
  obtain ⟨b0, b1, -, hz⟩ := two_new (w1 := W) (by rw [← hW]; exact Below.refl _ _)
  rw [hW]
  have BX := Lib.hid b0
  have CX := Lib.hid b1
  have HWb := Lib.hid hWb
  clear hW hWb b0 b1
  go_loopw [5] (fun i wr => ∃ (k : Nat), k ≤ r.acts.length ∧ i = .int .i64 k ∧ Hid (Below W.heap.size W wr)) (fun i _ => r.acts.length - (intOf i).toNat)
  case atStart => exact ⟨0, Nat.zero_le _, rfl, Below.refl _ _⟩
  case round =>
    obtain ⟨k, hk, rfl, HB⟩ := hrel
    have bx := (HB.out.block _ (by omega)).trans BX.out
    have cx := (HB.out.block _ hz).trans CX.out
    have d0 : wr.cell? ⟨w.heap.size, 0, none⟩ = some (.int .i64 r.room) := Lib.cell_of_heap bx 0
    have d1 : wr.cell? ⟨w.heap.size, 1, none⟩ = some (.string r.fast) := Lib.cell_of_heap bx 1
    have d2 : wr.cell? ⟨w.heap.size, 2, none⟩ = some (.slice A r.acts.length cap) := Lib.cell_of_heap bx 2
    have g0 : wr.cell? ⟨w.heap.size + 1, 0, none⟩ = some (.int .i64 r.room) := Lib.cell_of_heap cx 0
    have g1 : wr.cell? ⟨w.heap.size + 1, 1, none⟩ = some (.string r.fast) := Lib.cell_of_heap cx 1
    have g2 : wr.cell? ⟨w.heap.size + 1, 2, none⟩ = some (.slice A2 r.acts.length cap2) := Lib.cell_of_heap cx 2
    have z0 : w.heap.size < wr.heap.size := by have := HB.out.size; omega
    have z1 : w.heap.size + 1 < wr.heap.size := by have := HB.out.size; omega
    clear bx cx
    have hlow : Below w.heap.size w wr := HWb.out.trans (HB.out.mono HWb.out.size)
    have HLOW := Lib.hid hlow
    by_cases hlt : k < r.acts.length
    · obtain ⟨b, o, rfl, hb, hall⟩ := hcells (by omega)
      obtain ⟨b2, o2, rfl, hb2, hall2⟩ := hcells2 (by omega)
      obtain ⟨c0, c1, c2, c3⟩ := (hall k hlt)
      obtain ⟨f0, f1, f2, f3⟩ := (hall2 k hlt)
      generalize r.acts.getD k zAct = x at c0 c1 c2 c3 f0 f1 f2 f3
      replace c0 := (hlow.cell (p := ⟨b, o + k * 4, none⟩) hb).trans c0
      replace c1 := (hlow.cell (p := ⟨b, o + k * 4 + 1, none⟩) hb).trans c1
      replace c2 := (hlow.cell (p := ⟨b, o + k * 4 + 2, none⟩) hb).trans c2
      replace c3 := (hlow.cell (p := ⟨b, o + k * 4 + 3, none⟩) hb).trans c3
      replace f0 := (hlow.cell (p := ⟨b2, o2 + k * 4, none⟩) hb2).trans f0
      replace f1 := (hlow.cell (p := ⟨b2, o2 + k * 4 + 1, none⟩) hb2).trans f1
      replace f2 := (hlow.cell (p := ⟨b2, o2 + k * 4 + 2, none⟩) hb2).trans f2
      replace f3 := (hlow.cell (p := ⟨b2, o2 + k * 4 + 3, none⟩) hb2).trans f3
      clear hall hall2 hcells hcells2 hlow
      have hkI : (k : Int) < (r.acts.length : Int) := by omega
      go_wp2_with fail
      go_quiet (fail)
      go_wp2_with fail
      go_roundw
      case rel => exact ⟨k + 1, by omega, by go_num, below_drewN HB.out _⟩
      case measure => simp [intOf]; omega
    · clear hcells hcells2 hlow
      go_wp2_with fail
      go_ret
      exact ⟨rfl, HLOW.out⟩
end Go.Proofs.YtinkdjeanjhkbaaGreatDoor
