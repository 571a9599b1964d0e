/-
  The walks of image.Words and what it calls, at the two texts of the examples.
-/
import Derived.Test.YtinkdjeanjhkbaaGreatDoorR
import Derived.Recover
namespace Go.Proofs.YtinkdjeanjhkbaaGreatDoor
open Go.RowKit
attribute [local go_sem] size_mkB

theorem must_true (p : Value) (w : World) : Calls Tryz.prog 34 #[p, .bool true] w fun e w' => e = .returned (.tuple #[]) ∧ w' = w := by
  go_enter Tryz.func34, Tryz.ntmps34
  go_wp2
  exact bodyPost_end (results_none rfl _ _ _) rfl ⟨rfl, rfl⟩

theorem must_false (p : Value) (w : World) : Calls Tryz.prog 34 #[p, .bool false] w fun e w' => e = .panicked [{ v := .iface 87 (.agg #[]), recovered := false }] ∧ w' = w := by
  go_enter Tryz.func34, Tryz.ntmps34
  go_wp2
  exact ⟨rfl, ⟨rfl, rfl⟩⟩

/-- one block has turned, and nothing else -/
structure Sole (g : Nat) (w w' : World) : Prop where
  os : w'.os = w.os
  tape : w'.tape = w.tape
  output : w'.output = w.output
  size : w'.heap.size = w.heap.size
  block : ∀ k, k ≠ g → w'.heap[k]? = w.heap[k]?

theorem Sole.refl (g : Nat) (w : World) : Sole g w w := ⟨rfl, rfl, rfl, rfl, fun _ _ => rfl⟩
theorem Sole.drewN {g : Nat} {w w' : World} (h : Sole g w w') (n : Nat) : Sole g w (w'.drewN n) := ⟨h.os, h.tape, h.output, h.size, h.block⟩
theorem Sole.drew {g : Nat} {w w' : World} (h : Sole g w w') : Sole g w w'.drew := ⟨h.os, h.tape, h.output, h.size, h.block⟩
theorem Sole.set {g : Nat} {w w' : World} (h : Sole g w w') (j : Nat) (v : Value) : Sole g w (w'.setCell ⟨g, j, none⟩ v) :=
  ⟨h.os, h.tape, h.output, by simpa [World.setCell] using h.size, fun k hk => by rw [Below.heap_setCell _ _ _ _ hk]; exact h.block k hk⟩

theorem slice_from (s : ByteArray) (k : Nat) (hk : k ≤ s.size) (W : World) : (Instr.slice 9 (.string s) (some (.int .i64 (k : Int))) none none).run Tryz.prog W = .ok (.string (s.extract k s.size)) W := by
  have hj : (0 : Int) ≤ (k : Int) ∧ (k : Int) ≤ (s.size : Int) := ⟨by omega, by omega⟩
  simp [Instr.slice, Instr.sliceBounds, Instr.sliceBound, asIntOf, run_underlying Tryz.underlying9, hj]
  try (intro hc; omega)
theorem slice_mid (s : ByteArray) (k n : Nat) (hk : k + n ≤ s.size) (W : World) : (Instr.slice 9 (.string s) (some (.int .i64 (k : Int))) (some (.int .i64 ((k : Int) + (n : Int)))) none).run Tryz.prog W = .ok (.string (s.extract k (k + n))) W := by
  rw [run_slice_string W 9 s .i64 .i64 k ((k : Int) + (n : Int)) Tryz.underlying9 (by omega) (by omega) (by omega)]
  rfl

set_option maxHeartbeats 800000 in
set_option maxRecDepth 100000 in
theorem until_any (g : Nat) (text : ByteArray) (k n : Nat) (b : UInt8) (w : World) (hc : w.heap[g]? = some (.cells #[.string text, .int .i64 k] 58 (0, 0))) (hs : text.size ≤ 1000000) (hk : k + n < text.size)
    (hn : Lib.indexByte ((bl text).drop k) b = (n : Int)) :
    Calls Tryz.prog 35 #[.pointer (some ⟨g, 0, none⟩), .int .u8 b.toNat] w fun e w' => e = .returned (.string (text.extract k (k + n))) ∧ w'.heap[g]? = some (.cells #[.string text, .int .i64 ((k + n + 1 : Nat) : Int)] 58 (0, 0)) ∧ Sole g w w' := by
  have HC := Lib.hid hc
  have c0 : w.cell? ⟨g, 0, none⟩ = some (.string text) := Lib.cell_of_heap hc 0
  have c1 : w.cell? ⟨g, 1, none⟩ = some (.int .i64 k) := Lib.cell_of_heap hc 1
  have cf := Lib.frozen_of_heap hc
  have s1 := slice_from text k (by omega)
  have s2 := slice_mid text k n (by omega)
  have hib : Lib.indexByte (text.extract k text.size).data.toList ((b.toNat : Int).toNat.toUInt8) = (n : Int) := by
    rw [show (text.extract k text.size).data.toList = bl (text.extract k text.size) from rfl, bl_extract, List.take_of_length_le (by simp [size_bl])]
    simpa using hn
  generalize text.extract k text.size = X at s1 hib
  generalize text.extract k (k + n) = Y at s2 ⊢
  have hcl : ∀ W : World, Calls Tryz.prog 55 #[.string X, .int .u8 (b.toNat : Int)] W fun e w' => e = .returned (.int .i64 (n : Int)) ∧ w' = W := fun W => by rw [← hib]; exact Tryz.strings_IndexByte _ _ _
  have HCL := Lib.hid hcl
  clear hc hn hib hcl
  go_enter Tryz.func35, Tryz.ntmps35
  go_wp2_with fail
  go_quiet (first | (go_at_call 55; exact Calls.quiet_of_same (HCL.out _)))
  go_wp2_with (go_at_call 34; refine (must_true _ _).mono ?_; rintro e w' ⟨rfl, rfl⟩)
  go_quiet (fail)
  go_wp2
  go_ret
  refine ⟨rfl, ?_, ((Sole.refl g w).drewN _).set _ _⟩
  refine (heap_setCell_at (w := w.drewN _) (b := g) HC.out 1 _).trans ?_
  simp
  omega

set_option maxHeartbeats 800000 in
set_option maxRecDepth 100000 in
theorem bytes2_any (g : Nat) (text : ByteArray) (k n : Nat) (w : World) (hc : w.heap[g]? = some (.cells #[.string text, .int .i64 k] 58 (0, 0))) (hs : text.size ≤ 1000000) (hk : k + n < text.size)
    (hn : text[k + n] = 32) :
    Calls Tryz.prog 39 #[.pointer (some ⟨g, 0, none⟩), .int .i64 n] w fun e w' => e = .returned (.string (text.extract k (k + n))) ∧ w'.heap[g]? = some (.cells #[.string text, .int .i64 ((k + n + 1 : Nat) : Int)] 58 (0, 0)) ∧ Sole g w w' := by
  have HC := Lib.hid hc
  have c0 : w.cell? ⟨g, 0, none⟩ = some (.string text) := Lib.cell_of_heap hc 0
  have c1 : w.cell? ⟨g, 1, none⟩ = some (.int .i64 k) := Lib.cell_of_heap hc 1
  have cf := Lib.frozen_of_heap hc
  have s2 := slice_mid text k n (by omega)
  have hlt : (n : Int) < (text.size : Int) - (k : Int) := by omega
  have hn0 : (0 : Int) ≤ (n : Int) := by omega
  have hix : ∀ W : World, (Instr.index 9 (.string text) (.int .i64 ((k : Int) + (n : Int)))).run Tryz.prog W = .ok (.int .u8 32) W := by
    intro W
    rw [run_index_string W 9 text .i64 _ Tryz.underlying9, dif_pos (by omega)]
    have e : ((k : Int) + (n : Int)).toNat = k + n := by omega
    simp only [e, hn]
    rfl
  generalize text.extract k (k + n) = Y at s2 ⊢
  clear hc hn
  go_enter Tryz.func39, Tryz.ntmps39
  go_wp2_with fail
  go_quiet (first | (go_at_call 34; exact Calls.quiet_of_same (must_true _ _)))
  go_wp2_with fail
  go_quiet (fail)
  go_wp2
  go_ret
  refine ⟨rfl, ?_, ((Sole.refl g w).drewN _).set _ _⟩
  refine (heap_setCell_at (w := w.drewN _) (b := g) HC.out 1 _).trans ?_
  simp
  omega
end Go.Proofs.YtinkdjeanjhkbaaGreatDoor
