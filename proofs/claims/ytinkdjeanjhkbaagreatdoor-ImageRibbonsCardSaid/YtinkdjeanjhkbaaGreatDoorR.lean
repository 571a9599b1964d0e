/-
  The walks of the statements' helpers: formatted, lost.
-/
import Derived.Test.YtinkdjeanjhkbaaGreatDoorQ
namespace Go.Proofs.YtinkdjeanjhkbaaGreatDoor
open Go.RowKit
attribute [local go_sem] size_mkB

def formattedR (room : Int) : Rib × Bool := match newR room with
  | none => (zRib, false)
  | some r => actedR r [keepAct 0 0, fastAct, addAct (mkB (bytesL 0 [])), fastAct]

set_option maxHeartbeats 1600000 in
set_option maxRecDepth 100000 in
theorem formatted_any (room : Int) (w : World) (hG : G w) :
    Calls Tryz.prog 19 #[.int .i64 room] w (RibOutB (formattedR room) w) := by
  have h5 := hG.low
  have hB0 : Below w.heap.size w (w.alloc (Obj.cells #[Value.int IntKind.i64 0, Value.string { data := #[] }, Value.slice none 0 0] 24)) := (Below.refl _ _).alloc (Nat.le_refl _) _
  have HG0 := Lib.hid (hG.below hB0 h5)
  clear hB0
  go_enter Tryz.func19, Tryz.ntmps19
  go_wp2_with fail
  refine (new_any room _).mono ?_
  rintro e w1 ⟨A1, c1, he, hb1⟩
  have R1 := Lib.hid (one_new hb1)
  have HB1 := Lib.hid (below_one hb1)
  have HG1 := Lib.hid (hG.below HB1.out h5)
  have hz1 : w.heap.size < w1.heap.size := by have := hb1.size; simp at this; omega
  clear hb1
  have g0 : w1.cell? ⟨w.heap.size, 0, none⟩ = some (.int .i64 0) := Lib.cell_of_heap R1.out 0
  have g1 : w1.cell? ⟨w.heap.size, 1, none⟩ = some (.string ⟨#[]⟩) := Lib.cell_of_heap R1.out 1
  have g2 : w1.cell? ⟨w.heap.size, 2, none⟩ = some (.slice none 0 0) := Lib.cell_of_heap R1.out 2
  have g3 := Lib.frozen_of_heap R1.out
  cases hn : newR room with
  | none =>
    rw [hn] at he
    simp only at he
    subst he
    have hsp : formattedR room = (zRib, false) := by unfold formattedR; rw [hn]
    have HSP := Lib.hid hsp
    clear hn hsp
    obtain ⟨q0, q1, q2⟩ := set3a_cells R1.out (.int .i64 0) (.string ⟨#[]⟩) (.slice none 0 0) (.cells #[.int .i64 0, .string ⟨#[]⟩, .slice none 0 0] 24)
    go_wp2_with fail
    refine bodyPost_ret (v := .tuple #[.agg #[.int .i64 0, .string ⟨#[]⟩, .slice none 0 0], .bool false]) (by simp [results, Tryz.results19, go_sem, q0, q1, q2]) rfl ?_
    refine ⟨none, 0, ?_, ?_⟩
    · rw [HSP.out]; exact ⟨ActsIn.nil _ _, rfl⟩
    · exact (below_set3 HB1.out (by simp) _ _ _).alloc (by simp [World.setCell]; omega) _
  | some r =>
    rw [hn] at he
    simp only at he
    obtain ⟨hA1, rfl⟩ := he
    have hv : r.valid ∧ r.acts = [] := by
      unfold newR at hn
      split at hn
      · cases hn; exact ⟨‹_›, rfl⟩
      · cases hn
    have hsp : formattedR room = actedE r (formatR r) := by unfold formattedR formatR; rw [hn, if_pos ⟨hv.1, by rw [hv.2]; rfl⟩]; rfl
    have hfr : formatR r = .inr [keepAct 0 0, fastAct, addAct (mkB (bytesL 0 [])), fastAct] := by unfold formatR; rw [if_pos ⟨hv.1, by rw [hv.2]; rfl⟩]
    have HSP := Lib.hid hsp
    have HFR := Lib.hid hfr
    have HA1 := Lib.hid hA1
    have R1' := Lib.hid ((Below.heap_alloc w1 (.cells #[.int .i64 r.room, .string r.fast, .slice A1 r.acts.length c1] 24) _ hz1).trans R1.out)
    have X1 := Lib.hid (heap_alloc_new w1 (.cells #[.int .i64 r.room, .string r.fast, .slice A1 r.acts.length c1] 24))
    have HA1' := Lib.hid ((HA1.out.below ((Below.refl _ _).alloc (Nat.le_refl _) (.cells #[.int .i64 r.room, .string r.fast, .slice A1 r.acts.length c1] 24))).mono (B' := (w1.alloc (.cells #[.int .i64 r.room, .string r.fast, .slice A1 r.acts.length c1] 24)).heap.size) (by simp))
    have HG1' := Lib.hid (HG1.out.alloc (.cells #[.int .i64 r.room, .string r.fast, .slice A1 r.acts.length c1] 24))
    have HB1' := Lib.hid (HB1.out.alloc (by omega) (.cells #[.int .i64 r.room, .string r.fast, .slice A1 r.acts.length c1] 24))
    clear hn hsp hfr hA1 hv g0 g1 g2 g3
    go_wp2_with fail
    refine (format_any r _ _ HA1'.out HG1'.out).mono ?_
    rintro e w2 ⟨hb2, he⟩
    rw [HFR.out] at he
    obtain ⟨A2, c2, rfl, HL⟩ := he
    have HL2 := Lib.hid (OwnActs.reads HL.out)
    have R2 := Lib.hid ((hb2.block _ (by simp; omega)).trans R1'.out)
    have X2 := Lib.hid ((hb2.block _ (by simp)).trans X1.out)
    have HA2 := Lib.hid ((HA1'.out.below hb2).mono (B' := w2.heap.size) hb2.size)
    have HB2 := Lib.hid (HB1'.out.trans (hb2.mono (by simp; omega)))
    have hz2 : w1.heap.size < w2.heap.size := by have := hb2.size; simp at this; omega
    clear HL hb2
    have e0 : w2.cell? ⟨w1.heap.size, 0, none⟩ = some (.int .i64 r.room) := Lib.cell_of_heap X2.out 0
    have e1 : w2.cell? ⟨w1.heap.size, 1, none⟩ = some (.string r.fast) := Lib.cell_of_heap X2.out 1
    have e2 : w2.cell? ⟨w1.heap.size, 2, none⟩ = some (.slice A1 r.acts.length c1) := Lib.cell_of_heap X2.out 2
    go_wp2_with fail
    refine (acted_any r _ _ 0 (.inr [keepAct 0 0, fastAct, addAct (mkB (bytesL 0 [])), fastAct]) _ HA2.out ⟨rfl, HL2.out⟩).mono ?_
    rintro e w3 ⟨A3, c3, ⟨hA3, rfl⟩, hb3⟩
    have R3 := Lib.hid ((hb3.block _ (by omega)).trans R2.out)
    have HA3 := Lib.hid hA3
    have HB3 := Lib.hid (HB2.out.trans (hb3.mono (by omega)))
    have hz3 : w.heap.size < w3.heap.size := by have := hb3.size; omega
    clear hb3 hA3 e0 e1 e2
    rw [HFR.out] at HSP
    generalize actedE r (.inr [keepAct 0 0, fastAct, addAct (mkB (bytesL 0 [])), fastAct]) = rb at HA3 HSP ⊢
    obtain ⟨rr, rbb⟩ := rb
    simp only at HA3
    obtain ⟨q0, q1, q2⟩ := set3_cells R3.out (.int .i64 rr.room) (.string rr.fast) (.slice A3 rr.acts.length c3)
    have g0 : w3.cell? ⟨w.heap.size, 0, none⟩ = some (.int .i64 0) := Lib.cell_of_heap R3.out 0
    have g1 : w3.cell? ⟨w.heap.size, 1, none⟩ = some (.string ⟨#[]⟩) := Lib.cell_of_heap R3.out 1
    have g2 : w3.cell? ⟨w.heap.size, 2, none⟩ = some (.slice none 0 0) := Lib.cell_of_heap R3.out 2
    have g3 := Lib.frozen_of_heap R3.out
    go_wp2_with fail
    refine bodyPost_ret (v := .tuple #[.agg #[.int .i64 rr.room, .string rr.fast, .slice A3 rr.acts.length c3], .bool rbb]) (by simp [results, Tryz.results19, go_sem, q0, q1, q2]) rfl ?_
    refine ⟨A3, c3, ?_, below_set3 HB3.out (by simp) _ _ _⟩
    rw [HSP.out]
    exact ⟨acts_set3 HA3.out R3.out (by simp) _ _ _, rfl⟩

def lostR (r : Rib) (a b c : Int) : ByteArray := match loseR r a b c with
  | none => ⟨#[]⟩
  | some r' => r'.fast

set_option maxHeartbeats 1600000 in
set_option maxRecDepth 100000 in
theorem lost_any (r : Rib) (v : Value) (a b c : Int) (w : World) (hv : ActsIn w.heap.size w v r.acts) :
    Calls Tryz.prog 17 #[.agg #[.int .i64 r.room, .string r.fast, v], .agg #[.int .i64 a, .int .i64 b, .int .i64 c]] w fun e w' => e = .returned (.string (lostR r a b c)) ∧ Below w.heap.size w w' := by
  have HV := Lib.hid hv
  obtain ⟨A, cap, rfl, -, -, -⟩ := hv
  have hB0 := Lib.hid (((Below.refl w.heap.size w).alloc (Nat.le_refl _) (Obj.cells #[Value.int IntKind.i64 r.room, Value.string r.fast, .slice A r.acts.length cap] 24)).alloc (by simp) (Obj.cells #[.int .i64 a, .int .i64 b, .int .i64 c] 25))
  have HV0 := Lib.hid ((HV.out.below hB0.out).mono (B' := ((w.alloc (Obj.cells #[Value.int IntKind.i64 r.room, Value.string r.fast, .slice A r.acts.length cap] 24)).alloc (Obj.cells #[.int .i64 a, .int .i64 b, .int .i64 c] 25)).heap.size) (by simp; omega))
  go_enter Tryz.func17, Tryz.ntmps17
  go_wp2_with fail
  refine (lose_any r _ a b c _ HV0.out).mono ?_
  rintro e w1 ⟨A1, c1, he, hb1⟩
  have HB1 := Lib.hid (hB0.out.trans (hb1.mono (by simp; omega)))
  have hz1 : w.heap.size ≤ w1.heap.size := HB1.out.size
  clear hb1
  have hsp : lostR r a b c = lostR r a b c := rfl
  conv at hsp => rhs; unfold lostR
  cases hn : loseR r a b c with
  | none =>
    rw [hn] at he hsp
    simp only at he hsp
    subst he
    have HSP := Lib.hid hsp
    clear hn hsp
    go_wp2_with fail
    refine bodyPost_ret (v := .string ⟨#[]⟩) (by simp [results, Tryz.results17, go_sem]) rfl ?_
    exact ⟨by rw [HSP.out], HB1.out.alloc hz1 _⟩
  | some r' =>
    rw [hn] at he hsp
    simp only at he hsp
    obtain ⟨-, rfl⟩ := he
    have HSP := Lib.hid hsp
    clear hn hsp
    go_wp2_with fail
    refine bodyPost_ret (v := .string r'.fast) (by simp [results, Tryz.results17, go_sem]) rfl ?_
    exact ⟨by rw [HSP.out], HB1.out.alloc hz1 _⟩
end Go.Proofs.YtinkdjeanjhkbaaGreatDoor
