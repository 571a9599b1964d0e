/-
  The walks of image.Words at the two texts of the examples.
-/
import Derived.Test.YtinkdjeanjhkbaaGreatDoorX
namespace Go.Proofs.YtinkdjeanjhkbaaGreatDoor
open Go.RowKit
attribute [local go_sem] size_mkB

theorem sole_below {w w1 : World} {o1 o2 : Obj} (h : SoleB ((w.alloc o1).alloc o2).heap.size (w.heap.size + 1) ((w.alloc o1).alloc o2) w1) : Below w.heap.size w w1 := by
  have h0 : Below w.heap.size w ((w.alloc o1).alloc o2) := ((Below.refl _ _).alloc (Nat.le_refl _) _).alloc (by simp) _
  exact h0.trans ⟨h.os, h.tape, h.output, h.size, fun k hk => h.block k (by simp; omega) (by omega)⟩

set_option maxRecDepth 100000 in
theorem Words1_any (w : World) (hG : G w) : Calls Tryz.prog 16 #[.string T1] w fun e w' => ∃ A c, e = .returned (.tuple #[.slice A 2 c, .int .i64 0]) ∧ Below w.heap.size w w' ∧ w'.ownsRow w.heap.size 9 1 (.slice A 2 c) 2 [.string ⟨#[97, 32, 98]⟩, .string ⟨#[49, 50]⟩] := by
  have hmf : ∀ (fn : Fn) (first cap : Array Value) (w : World), (Instr.makeFunc fn first cap).run Tryz.prog w = .ok (.func fn first cap) w := fun _ _ _ _ => rfl
  have h5 := hG.low
  have htx : ((w.alloc (.cells #[.string T1] 9)).alloc (.cells #[.slice none 0 0] 37)).heap[w.heap.size]? = some (.cells #[.string T1] 9 (0, 0)) := (Below.heap_alloc _ _ _ (by simp)).trans (heap_alloc_new _ _)
  have hout : ((w.alloc (.cells #[.string T1] 9)).alloc (.cells #[.slice none 0 0] 37)).heap[w.heap.size + 1]? = some (.cells #[.slice none 0 0] 37 (0, 0)) := by
    have := heap_alloc_new (w.alloc (.cells #[.string T1] 9)) (.cells #[.slice none 0 0] 37)
    simp only [World.size_alloc] at this
    exact this
  have HW := Lib.hid (guarded1_any ((w.alloc (.cells #[.string T1] 9)).alloc (.cells #[.slice none 0 0] 37)) w.heap.size (w.heap.size + 1) (by simp; omega) (by simp) (by omega) ((hG.alloc _).alloc _) htx hout (by omega))
  clear htx hout
  generalize T1 = T at HW ⊢
  go_enter Tryz.func16, Tryz.ntmps16
  go_wp2_with fail
  refine HW.out.mono ?_
  rintro e w1 ⟨rfl, hs1, A1, c1, ho1, hr1⟩
  have HS1 := Lib.hid (sole_below hs1)
  have HR1 := Lib.hid hr1
  have o1 : w1.cell? ⟨w.heap.size + 1, 0, none⟩ = some (.slice A1 2 c1) := Lib.cell_of_heap ho1 0
  clear hs1 ho1 hr1
  go_wp2_with fail
  refine bodyPost_ret (v := .tuple #[.slice A1 2 c1, .int .i64 0]) (by simp [results, Tryz.results16, go_sem]) rfl ?_
  exact ⟨A1, c1, rfl, HS1.out, ownsRow_le' HR1.out (by simp; omega)⟩

set_option maxRecDepth 100000 in
theorem Words2_any (w : World) : Calls Tryz.prog 16 #[.string T2] w fun e w' => e = .returned (.tuple #[.slice none 0 0, .int .i64 264]) ∧ Below w.heap.size w w' := by
  have hmf : ∀ (fn : Fn) (first cap : Array Value) (w : World), (Instr.makeFunc fn first cap).run Tryz.prog w = .ok (.func fn first cap) w := fun _ _ _ _ => rfl
  have htx : ((w.alloc (.cells #[.string T2] 9)).alloc (.cells #[.slice none 0 0] 37)).heap[w.heap.size]? = some (.cells #[.string T2] 9 (0, 0)) := (Below.heap_alloc _ _ _ (by simp)).trans (heap_alloc_new _ _)
  have hout : ((w.alloc (.cells #[.string T2] 9)).alloc (.cells #[.slice none 0 0] 37)).heap[w.heap.size + 1]? = some (.cells #[.slice none 0 0] 37 (0, 0)) := by
    have := heap_alloc_new (w.alloc (.cells #[.string T2] 9)) (.cells #[.slice none 0 0] 37)
    simp only [World.size_alloc] at this
    exact this
  have HW := Lib.hid (guarded2_any ((w.alloc (.cells #[.string T2] 9)).alloc (.cells #[.slice none 0 0] 37)) w.heap.size (w.heap.size + 1) (by simp; omega) (by simp) htx hout)
  clear htx hout
  generalize T2 = T at HW ⊢
  go_enter Tryz.func16, Tryz.ntmps16
  go_wp2_with fail
  refine HW.out.mono ?_
  rintro e w1 ⟨rfl, hs1⟩
  have HS1 := Lib.hid (sole_below hs1)
  clear hs1
  go_wp2_with fail
  refine bodyPost_ret (v := .tuple #[.slice none 0 0, .int .i64 264]) (by simp [results, Tryz.results16, go_sem]) rfl ?_
  exact ⟨rfl, HS1.out⟩
end Go.Proofs.YtinkdjeanjhkbaaGreatDoor
