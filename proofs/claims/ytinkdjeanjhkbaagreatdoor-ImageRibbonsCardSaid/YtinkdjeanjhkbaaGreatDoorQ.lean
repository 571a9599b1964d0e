/-
  The walks of the statements' helpers: acted, formatted, put, lost.
-/
import Derived.Test.YtinkdjeanjhkbaaGreatDoorP
namespace Go.Proofs.YtinkdjeanjhkbaaGreatDoor
open Go.RowKit
attribute [local go_sem] size_mkB

/-- a ribbon and a yes or no, returned -/
def RibOutB (o : Rib × Bool) (w : World) (e : Ending) (w' : World) : Prop :=
  ∃ A cap, (ActsIn w'.heap.size w' (.slice A o.1.acts.length cap) o.1.acts ∧ e = .returned (.tuple #[.agg #[.int .i64 o.1.room, .string o.1.fast, .slice A o.1.acts.length cap], .bool o.2])) ∧ Below w.heap.size w w'

def actedR (r : Rib) (l : List RAct) : Rib × Bool := match actR r l with
  | none => (zRib, false)
  | some r' => (r', true)
def actedE (r : Rib) : Int ⊕ List RAct → Rib × Bool
  | .inl _ => (r, false)
  | .inr l => actedR r l

/-- a store into a block too small for a row of actions -/
theorem acts_set {w : World} {B : Nat} {v : Value} {l : List RAct} {b : Nat} {c : Array Value} {t : TypeId} {f : Nat × Nat} (h : ActsIn B w v l) (hb : w.heap[b]? = some (.cells c t f)) (hc3 : c.size ≤ 3) (j : Nat) (u : Value) :
    ActsIn B (w.setCell ⟨b, j, none⟩ u) v l := by
  obtain ⟨A, cap, h1, h2, h3, h4⟩ := h
  refine ⟨A, cap, h1, h2, h3, fun h0 => ?_⟩
  obtain ⟨g, o, e, hg, hc⟩ := h4 h0
  have hne : g ≠ b := by
    rintro rfl
    have c3 := (hc 0 h0).2.2.2
    have hh := Lib.cell_of_heap hb (o + 0 * 4 + 3)
    rw [hh] at c3
    have := (Array.getElem?_eq_some_iff.1 c3).1
    omega
  have hk : ∀ i, (w.setCell ⟨b, j, none⟩ u).cell? ⟨g, i, none⟩ = w.cell? ⟨g, i, none⟩ := fun i => World.cell?_of_block (Below.heap_setCell _ _ _ _ hne)
  refine ⟨g, o, e, hg, fun i hi => ?_⟩
  obtain ⟨c0, c1, c2, c3⟩ := hc i hi
  exact ⟨(hk _).trans c0, (hk _).trans c1, (hk _).trans c2, (hk _).trans c3⟩

theorem acts_set3 {w : World} {v : Value} {l : List RAct} {b : Nat} {c : Array Value} {t : TypeId} {f : Nat × Nat} (h : ActsIn w.heap.size w v l) (hb : w.heap[b]? = some (.cells c t f)) (hc3 : c.size ≤ 3) (x y z : Value) :
    ActsIn (((w.setCell ⟨b, 0, none⟩ x).setCell ⟨b, 1, none⟩ y).setCell ⟨b, 2, none⟩ z).heap.size (((w.setCell ⟨b, 0, none⟩ x).setCell ⟨b, 1, none⟩ y).setCell ⟨b, 2, none⟩ z) v l := by
  have h1 := acts_set h hb hc3 0 x
  have b1 := heap_setCell_at hb 0 x
  have h2 := acts_set h1 b1 (by simpa using hc3) 1 y
  have b2 := heap_setCell_at b1 1 y
  have h3 := acts_set h2 b2 (by simpa using hc3) 2 z
  simpa [World.setCell] using h3

theorem below_set3 {B : Nat} {w0 w : World} {b : Nat} (h : Below B w0 w) (hB : B ≤ b) (x y z : Value) : Below B w0 (((w.setCell ⟨b, 0, none⟩ x).setCell ⟨b, 1, none⟩ y).setCell ⟨b, 2, none⟩ z) :=
  ((h.setCell hB _).setCell hB _).setCell hB _

theorem set3_cells {w : World} {b : Nat} {a0 a1 a2 : Value} {t : TypeId} {f : Nat × Nat} (h : w.heap[b]? = some (.cells #[a0, a1, a2] t f)) (x y z : Value) :
    (((w.setCell ⟨b, 0, none⟩ x).setCell ⟨b, 1, none⟩ y).setCell ⟨b, 2, none⟩ z).cell? ⟨b, 0, none⟩ = some x ∧ (((w.setCell ⟨b, 0, none⟩ x).setCell ⟨b, 1, none⟩ y).setCell ⟨b, 2, none⟩ z).cell? ⟨b, 1, none⟩ = some y ∧
    (((w.setCell ⟨b, 0, none⟩ x).setCell ⟨b, 1, none⟩ y).setCell ⟨b, 2, none⟩ z).cell? ⟨b, 2, none⟩ = some z := by
  have b3 := heap_setCell_at (heap_setCell_at (heap_setCell_at h 0 x) 1 y) 2 z
  have c0 := Lib.cell_of_heap b3 0
  have c1 := Lib.cell_of_heap b3 1
  have c2 := Lib.cell_of_heap b3 2
  exact ⟨c0, c1, c2⟩
abbrev set3 (w : World) (b : Nat) (x y z : Value) : World := ((w.setCell ⟨b, 0, none⟩ x).setCell ⟨b, 1, none⟩ y).setCell ⟨b, 2, none⟩ z
theorem set3a_cells {w : World} {b : Nat} {a0 a1 a2 : Value} {t : TypeId} {f : Nat × Nat} (h : w.heap[b]? = some (.cells #[a0, a1, a2] t f)) (x y z : Value) (o : Obj) :
    ((((w.setCell ⟨b, 0, none⟩ x).setCell ⟨b, 1, none⟩ y).setCell ⟨b, 2, none⟩ z).alloc o).cell? ⟨b, 0, none⟩ = some x ∧ ((((w.setCell ⟨b, 0, none⟩ x).setCell ⟨b, 1, none⟩ y).setCell ⟨b, 2, none⟩ z).alloc o).cell? ⟨b, 1, none⟩ = some y ∧
    ((((w.setCell ⟨b, 0, none⟩ x).setCell ⟨b, 1, none⟩ y).setCell ⟨b, 2, none⟩ z).alloc o).cell? ⟨b, 2, none⟩ = some z := by
  obtain ⟨c0, c1, c2⟩ := set3_cells h x y z
  have hb : b < (((w.setCell ⟨b, 0, none⟩ x).setCell ⟨b, 1, none⟩ y).setCell ⟨b, 2, none⟩ z).heap.size := by
    have := (Array.getElem?_eq_some_iff.1 h).1
    simpa [World.setCell] using this
  have hh := Below.heap_alloc (((w.setCell ⟨b, 0, none⟩ x).setCell ⟨b, 1, none⟩ y).setCell ⟨b, 2, none⟩ z) o b hb
  exact ⟨(World.cell?_of_block (a := ⟨b, 0, none⟩) hh).trans c0, (World.cell?_of_block (a := ⟨b, 1, none⟩) hh).trans c1, (World.cell?_of_block (a := ⟨b, 2, none⟩) hh).trans c2⟩

set_option maxHeartbeats 1600000 in
set_option maxRecDepth 100000 in
theorem acted_any (r : Rib) (v lv : Value) (er : Int) (o : Int ⊕ List RAct) (w : World) (hv : ActsIn w.heap.size w v r.acts) (ho : match o with | .inl e => er = e ∧ e ≠ 0 | .inr l => er = 0 ∧ ActsIn w.heap.size w lv l) :
    Calls Tryz.prog 42 #[.agg #[.int .i64 r.room, .string r.fast, v], lv, .int .i64 er] w (RibOutB (actedE r o) w) := by
  have HV := Lib.hid hv
  obtain ⟨A, cap, rfl, -, -, -⟩ := hv
  have hB0 : Below w.heap.size w ((w.alloc (Obj.cells #[Value.int IntKind.i64 r.room, Value.string r.fast, .slice A r.acts.length cap] 24)).alloc (Obj.cells #[Value.int IntKind.i64 0, Value.string { data := #[] }, Value.slice none 0 0] 24)) := ((Below.refl _ _).alloc (Nat.le_refl _) _).alloc (by simp) _
  have HB0 := Lib.hid hB0
  clear hB0
  have HV0 := Lib.hid ((HV.out.below HB0.out).mono (B' := ((w.alloc (Obj.cells #[Value.int IntKind.i64 r.room, Value.string r.fast, .slice A r.acts.length cap] 24)).alloc (Obj.cells #[Value.int IntKind.i64 0, Value.string { data := #[] }, Value.slice none 0 0] 24)).heap.size) (by simp; omega))
  have R0 : Hid (((w.alloc (Obj.cells #[Value.int IntKind.i64 r.room, Value.string r.fast, .slice A r.acts.length cap] 24)).alloc (Obj.cells #[Value.int IntKind.i64 0, Value.string { data := #[] }, Value.slice none 0 0] 24)).heap[w.heap.size + 1]? = some (.cells #[.int .i64 0, .string ⟨#[]⟩, .slice none 0 0] 24 (0, 0))) := by
    have := heap_alloc_new (w.alloc (Obj.cells #[Value.int IntKind.i64 r.room, Value.string r.fast, .slice A r.acts.length cap] 24)) (Obj.cells #[Value.int IntKind.i64 0, Value.string { data := #[] }, Value.slice none 0 0] 24)
    simp only [World.size_alloc] at this
    exact this
  cases o with
  | inl er' =>
    obtain ⟨rfl, her⟩ := ho
    go_enter Tryz.func42, Tryz.ntmps42
    go_wp2_with fail
    refine bodyPost_ret (v := .tuple #[.agg #[.int .i64 r.room, .string r.fast, .slice A r.acts.length cap], .bool false]) (by simp [results, Tryz.results42, go_sem]) rfl ?_
    have hB : Below w.heap.size w ((w.alloc (Obj.cells #[Value.int IntKind.i64 r.room, Value.string r.fast, .slice A r.acts.length cap] 24)).alloc (Obj.cells #[Value.int IntKind.i64 r.room, Value.string r.fast, .slice A r.acts.length cap] 24)) := ((Below.refl _ _).alloc (Nat.le_refl _) _).alloc (by simp) _
    exact ⟨A, cap, ⟨(HV.out.below hB).mono (by simp; omega), rfl⟩, hB⟩
  | inr l =>
    obtain ⟨rfl, hl⟩ := ho
    have HL0 := Lib.hid ((hl.below HB0.out).mono (B' := ((w.alloc (Obj.cells #[Value.int IntKind.i64 r.room, Value.string r.fast, .slice A r.acts.length cap] 24)).alloc (Obj.cells #[Value.int IntKind.i64 0, Value.string { data := #[] }, Value.slice none 0 0] 24)).heap.size) (by simp; omega))
    clear hl
    go_enter Tryz.func42, Tryz.ntmps42
    go_wp2_with fail
    refine (act_any r _ lv l _ HV0.out HL0.out).mono ?_
    rintro e w1 ⟨A1, c1, he, hb1⟩
    have R1 := Lib.hid ((hb1.block (w.heap.size + 1) (by simp)).trans R0.out)
    have HB1 := Lib.hid (HB0.out.trans (hb1.mono (by simp; omega)))
    have hz1 : w.heap.size + 1 < w1.heap.size := by have := hb1.size; simp at this; omega
    clear hb1
    have hz1' : w.heap.size < w1.heap.size := by omega
    have g0 : w1.cell? ⟨w.heap.size + 1, 0, none⟩ = some (.int .i64 0) := Lib.cell_of_heap R1.out 0
    have g1 : w1.cell? ⟨w.heap.size + 1, 1, none⟩ = some (.string ⟨#[]⟩) := Lib.cell_of_heap R1.out 1
    have g2 : w1.cell? ⟨w.heap.size + 1, 2, none⟩ = some (.slice none 0 0) := Lib.cell_of_heap R1.out 2
    have g3 := Lib.frozen_of_heap R1.out
    cases ha : actR r l with
    | none =>
      rw [ha] at he
      simp only at he
      subst he
      have HA := Lib.hid ha
      clear ha
      obtain ⟨q0, q1, q2⟩ := set3a_cells R1.out (.int .i64 0) (.string ⟨#[]⟩) (.slice none 0 0) (.cells #[.int .i64 0, .string ⟨#[]⟩, .slice none 0 0] 24)
      go_wp2_with fail
      refine bodyPost_ret (v := .tuple #[.agg #[.int .i64 0, .string ⟨#[]⟩, .slice none 0 0], .bool false]) (by simp [results, Tryz.results42, go_sem, q0, q1, q2]) rfl ?_
      refine ⟨none, 0, ?_, ?_⟩
      · simp only [actedE, actedR, HA.out]
        exact ⟨ActsIn.nil _ _, rfl⟩
      · exact (below_set3 HB1.out (by simp) _ _ _).alloc (by simp [World.setCell]; omega) _
    | some r' =>
      rw [ha] at he
      simp only at he
      obtain ⟨hA1, rfl⟩ := he
      have HA1 := Lib.hid hA1
      have HA := Lib.hid ha
      clear ha hA1
      obtain ⟨q0, q1, q2⟩ := set3a_cells R1.out (.int .i64 r'.room) (.string r'.fast) (.slice A1 r'.acts.length c1) (.cells #[.int .i64 r'.room, .string r'.fast, .slice A1 r'.acts.length c1] 24)
      go_wp2_with fail
      refine bodyPost_ret (v := .tuple #[.agg #[.int .i64 r'.room, .string r'.fast, .slice A1 r'.acts.length c1], .bool true]) (by simp [results, Tryz.results42, go_sem, q0, q1, q2]) rfl ?_
      refine ⟨A1, c1, ?_, ?_⟩
      · simp only [actedE, actedR, HA.out]
        exact ⟨((acts_set3 HA1.out R1.out (by simp) _ _ _).below ((Below.refl _ _).alloc (Nat.le_refl _) _)).mono (by simp), trivial⟩
      · exact (below_set3 HB1.out (by simp) _ _ _).alloc (by simp [World.setCell]; omega) _

theorem PutR_ne {r : Rib} {text : ByteArray} {er : Int} (h : PutR r text = .inl er) : er ≠ 0 := by
  unfold PutR at h
  split at h
  · split at h
    · cases h; decide
    · split at h
      · unfold putR at h
        split at h
        · cases h; decide
        · split at h
          · cases h; decide
          · split at h
            · cases h; decide
            · cases h
      · cases h; decide
  · cases h; decide

def putBR (r : Rib) (text : ByteArray) : Rib × Bool := actedE r (PutR r text)

set_option maxHeartbeats 1600000 in
set_option maxRecDepth 100000 in
theorem putB_any (r : Rib) (v : Value) (text : ByteArray) (w : World) (hv : ActsIn w.heap.size w v r.acts) (hG : G w) :
    Calls Tryz.prog 20 #[.agg #[.int .i64 r.room, .string r.fast, v], .string text] w (RibOutB (putBR r text) w) := by
  have HV := Lib.hid hv
  have h5 := hG.low
  obtain ⟨A, cap, rfl, -, -, -⟩ := hv
  have hB0 : Below w.heap.size w ((w.alloc (Obj.cells #[Value.int IntKind.i64 r.room, Value.string r.fast, .slice A r.acts.length cap] 24)).alloc (Obj.cells #[Value.int IntKind.i64 0, Value.string { data := #[] }, Value.slice none 0 0] 24)) := ((Below.refl _ _).alloc (Nat.le_refl _) _).alloc (by simp) _
  have HB0 := Lib.hid hB0
  have HG0 := Lib.hid (hG.below hB0 h5)
  clear hB0
  have HV0 := Lib.hid ((HV.out.below HB0.out).mono (B' := ((w.alloc (Obj.cells #[Value.int IntKind.i64 r.room, Value.string r.fast, .slice A r.acts.length cap] 24)).alloc (Obj.cells #[Value.int IntKind.i64 0, Value.string { data := #[] }, Value.slice none 0 0] 24)).heap.size) (by simp; omega))
  go_enter Tryz.func20, Tryz.ntmps20
  go_wp2_with fail
  refine (Put_any r _ text _ HV0.out HG0.out).mono ?_
  rintro e w1 ⟨hb1, he⟩
  obtain ⟨bx, rs, hb, hz1⟩ := two_new hb1
  have B1 := Lib.hid bx
  have R1 := Lib.hid rs
  have HB1 := Lib.hid hb
  have HV1 := Lib.hid ((HV.out.below hb).mono (B' := w1.heap.size) (by omega))
  clear hb1 bx rs hb
  have hz0 : w.heap.size < w1.heap.size := by omega
  have e0 : w1.cell? ⟨w.heap.size, 0, none⟩ = some (.int .i64 r.room) := Lib.cell_of_heap B1.out 0
  have e1 : w1.cell? ⟨w.heap.size, 1, none⟩ = some (.string r.fast) := Lib.cell_of_heap B1.out 1
  have e2 : w1.cell? ⟨w.heap.size, 2, none⟩ = some (.slice A r.acts.length cap) := Lib.cell_of_heap B1.out 2
  obtain ⟨o, ho⟩ : ∃ o, PutR r text = o := ⟨_, rfl⟩
  have hsp : putBR r text = actedE r o := by rw [← ho]; rfl
  have HSP := Lib.hid hsp
  clear hsp
  rw [ho] at he
  have HO := Lib.hid ho
  clear ho
  cases o with
  | inl er =>
    have hne := PutR_ne HO.out
    simp only at he
    subst he
    go_wp2_with fail
    refine (acted_any r _ _ er (.inl er) _ HV1.out ⟨rfl, hne⟩).mono ?_
    rintro e w2 ⟨A2, c2, ⟨hA2, rfl⟩, hb2⟩
    have R2 := Lib.hid ((hb2.block _ hz1).trans R1.out)
    have HA2 := Lib.hid hA2
    have HB2 := Lib.hid (HB1.out.trans (hb2.mono (by omega)))
    clear hb2 hA2 e0 e1 e2
    have hz2 : w.heap.size + 1 < w2.heap.size := (Array.getElem?_eq_some_iff.1 R2.out).1
    generalize actedE r (.inl er) = rb at HA2 HSP ⊢
    obtain ⟨rr, rbb⟩ := rb
    simp only at HA2
    obtain ⟨q0, q1, q2⟩ := set3_cells R2.out (.int .i64 rr.room) (.string rr.fast) (.slice A2 rr.acts.length c2)
    have g0 : w2.cell? ⟨w.heap.size + 1, 0, none⟩ = some (.int .i64 0) := Lib.cell_of_heap R2.out 0
    have g1 : w2.cell? ⟨w.heap.size + 1, 1, none⟩ = some (.string ⟨#[]⟩) := Lib.cell_of_heap R2.out 1
    have g2 : w2.cell? ⟨w.heap.size + 1, 2, none⟩ = some (.slice none 0 0) := Lib.cell_of_heap R2.out 2
    have g3 := Lib.frozen_of_heap R2.out
    go_wp2_with fail
    refine bodyPost_ret (v := .tuple #[.agg #[.int .i64 rr.room, .string rr.fast, .slice A2 rr.acts.length c2], .bool rbb]) (by simp [results, Tryz.results20, go_sem, q0, q1, q2]) rfl ?_
    refine ⟨A2, c2, ?_, below_set3 HB2.out (by simp) _ _ _⟩
    rw [HSP.out]
    exact ⟨acts_set3 HA2.out R2.out (by simp) _ _ _, rfl⟩
  | inr l =>
    simp only at he
    obtain ⟨Al, cl, rfl, HL⟩ := he
    have HL1 := Lib.hid (OwnActs.reads HL.out)
    clear HL
    go_wp2_with fail
    refine (acted_any r _ _ 0 (.inr l) _ HV1.out ⟨rfl, HL1.out⟩).mono ?_
    rintro e w2 ⟨A2, c2, ⟨hA2, rfl⟩, hb2⟩
    have R2 := Lib.hid ((hb2.block _ hz1).trans R1.out)
    have HA2 := Lib.hid hA2
    have HB2 := Lib.hid (HB1.out.trans (hb2.mono (by omega)))
    clear hb2 hA2 e0 e1 e2
    have hz2 : w.heap.size + 1 < w2.heap.size := (Array.getElem?_eq_some_iff.1 R2.out).1
    generalize actedE r (.inr l) = rb at HA2 HSP ⊢
    obtain ⟨rr, rbb⟩ := rb
    simp only at HA2
    obtain ⟨q0, q1, q2⟩ := set3_cells R2.out (.int .i64 rr.room) (.string rr.fast) (.slice A2 rr.acts.length c2)
    have g0 : w2.cell? ⟨w.heap.size + 1, 0, none⟩ = some (.int .i64 0) := Lib.cell_of_heap R2.out 0
    have g1 : w2.cell? ⟨w.heap.size + 1, 1, none⟩ = some (.string ⟨#[]⟩) := Lib.cell_of_heap R2.out 1
    have g2 : w2.cell? ⟨w.heap.size + 1, 2, none⟩ = some (.slice none 0 0) := Lib.cell_of_heap R2.out 2
    have g3 := Lib.frozen_of_heap R2.out
    go_wp2_with fail
    refine bodyPost_ret (v := .tuple #[.agg #[.int .i64 rr.room, .string rr.fast, .slice A2 rr.acts.length c2], .bool rbb]) (by simp [results, Tryz.results20, go_sem, q0, q1, q2]) rfl ?_
    refine ⟨A2, c2, ?_, below_set3 HB2.out (by simp) _ _ _⟩
    rw [HSP.out]
    exact ⟨acts_set3 HA2.out R2.out (by simp) _ _ _, rfl⟩
end Go.Proofs.YtinkdjeanjhkbaaGreatDoor
