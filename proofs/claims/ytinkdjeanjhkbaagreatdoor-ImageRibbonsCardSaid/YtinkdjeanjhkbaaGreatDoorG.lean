/-
  The walks of image's keep, add, New, Lose.
-/
import Derived.Test.YtinkdjeanjhkbaaGreatDoorF
namespace Go.Proofs.YtinkdjeanjhkbaaGreatDoor
open Go.RowKit
attribute [local go_sem] size_mkB

def fastAct : RAct := ⟨3, ⟨#[]⟩, 0, 0⟩
def keepAct (f t : Int) : RAct := ⟨2, ⟨#[]⟩, f, t⟩
def addAct (s : ByteArray) : RAct := ⟨1, s, 0, 0⟩

set_option maxHeartbeats 400000 in
theorem keep_any (f t : Int) (w : World) :
    Calls Tryz.prog 62 #[.int .i64 f, .int .i64 t] w fun e w' => ∃ A cap, e = .returned (.slice A 2 cap) ∧ Hid (OwnActs w.heap.size w' (.slice A 2 cap) [keepAct f t, fastAct]) ∧ Below w.heap.size w w' := by
  go_enter Tryz.func62, Tryz.ntmps62
  go_wp2
  go_ret
  exact ⟨_, _, rfl, World.ownsRow_lit w _ 2 (Nat.le_refl _) (by decide) rfl, (Below.refl _ _).alloc (Nat.le_refl _) _⟩

set_option maxHeartbeats 400000 in
theorem add_any (s : ByteArray) (w : World) :
    Calls Tryz.prog 63 #[.string s] w fun e w' => e = .returned (.agg #[.int .i64 1, .string s, .int .i64 0, .int .i64 0]) ∧ Below w.heap.size w w' := by
  go_enter Tryz.func63, Tryz.ntmps63
  go_wp2
  refine bodyPost_ret (v := .agg #[.int .i64 1, .string s, .int .i64 0, .int .i64 0]) (by simp [results, Tryz.results63, go_sem]) rfl ⟨rfl, ?_⟩
  repeat (first | exact Below.refl _ _ | refine Below.setCell ?_ (by simp) _ | refine Below.alloc ?_ (by simp) _)

def newR (room : Int) : Option Rib := if ({ room := room, fast := ⟨#[]⟩, acts := [] } : Rib).valid then some ⟨room, ⟨#[]⟩, []⟩ else none

set_option maxHeartbeats 400000 in
set_option maxRecDepth 100000 in
theorem new_any (room : Int) (w : World) :
    Calls Tryz.prog 11 #[.int .i64 room] w (RibOut 260 (newR room) w) := by
  have hsp : newR room = if checkR room ⟨#[]⟩ [] = 0 then some ⟨room, ⟨#[]⟩, []⟩ else none := rfl
  have HSP := Lib.hid hsp
  clear hsp
  rcases check_01 room ⟨#[]⟩ [] with h0 | h0
  all_goals
    have H0 := Lib.hid h0
    go_enter Tryz.func11, Tryz.ntmps11
    go_wp2_with fail
    refine (check_any _ _ _ [] _ (ActsIn.nil _ _)).mono ?_
    rintro e w1 ⟨rfl, hb1⟩
    obtain ⟨b0, b1, hb, hz1⟩ := two_new hb1
    have HB1 := Lib.hid hb
    clear hb1 hb
    have d0 : w1.cell? ⟨w.heap.size, 0, none⟩ = some (.int .i64 0) := Lib.cell_of_heap b0 0
    have d1 : w1.cell? ⟨w.heap.size, 1, none⟩ = some (.string ⟨#[]⟩) := Lib.cell_of_heap b0 1
    have d2 : w1.cell? ⟨w.heap.size, 2, none⟩ = some (.slice none 0 0) := Lib.cell_of_heap b0 2
    have d3 := Lib.frozen_of_heap b0
    have g0 : w1.cell? ⟨w.heap.size + 1, 0, none⟩ = some (.int .i64 room) := Lib.cell_of_heap b1 0
    have g1 : w1.cell? ⟨w.heap.size + 1, 1, none⟩ = some (.string ⟨#[]⟩) := Lib.cell_of_heap b1 1
    have g2 : w1.cell? ⟨w.heap.size + 1, 2, none⟩ = some (.slice none 0 0) := Lib.cell_of_heap b1 2
    have hz0 : w.heap.size < w1.heap.size := by omega
    clear b0 b1
    go_wp2_with fail
  · refine bodyPost_ret (v := .tuple #[.agg #[.int .i64 room, .string ⟨#[]⟩, .slice none 0 0], .int .i64 0]) (by simp [results, Tryz.results11, go_sem, d0, d1, d2]) rfl ?_
    refine ⟨none, 0, ?_, ?_⟩
    · rw [HSP.out, if_pos H0.out]; exact ⟨ActsIn.nil _ _, rfl⟩
    · exact Below.setCell (Below.setCell (Below.setCell HB1.out (by simp) _) (by simp) _) (by simp) _
  · refine bodyPost_ret (v := .tuple #[.agg #[.int .i64 0, .string ⟨#[]⟩, .slice none 0 0], .int .i64 260]) (by simp [results, Tryz.results11, go_sem, d0, d1, d2]) rfl ?_
    refine ⟨none, 0, ?_, ?_⟩
    · rw [HSP.out, if_neg (by rw [H0.out]; decide)]
    · exact Below.setCell (Below.setCell (Below.setCell HB1.out (by simp) _) (by simp) _) (by simp) _
end Go.Proofs.YtinkdjeanjhkbaaGreatDoor
