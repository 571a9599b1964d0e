/-
  The walks of image.Put, Get and Format.
-/
import Derived.Test.YtinkdjeanjhkbaaGreatDoorM
namespace Go.Proofs.YtinkdjeanjhkbaaGreatDoor
open Go.RowKit
attribute [local go_sem] size_mkB

theorem chk_bad {r : Rib} (h : ¬ r.valid) : checkR r.room r.fast r.acts = 260 := by
  rcases check_01 r.room r.fast r.acts with e | e
  · exact absurd e h
  · exact e
theorem valid_fast {r : Rib} (h : r.valid) : r.fast.size ≤ 6000000 := by
  obtain ⟨h1, h2, h3, _⟩ := (valid_iff _ _ _).1 h
  omega

theorem below_drewN' {B : Nat} {a w : World} {k : Nat} (h : Below B a w) : Below B a (w.drewN k) := ⟨h.os, h.tape, h.output, h.size, h.block⟩

def PutR (r : Rib) (text : ByteArray) : Int ⊕ List RAct :=
  if r.valid then (if 2000000 < text.size then .inl 7 else if r.acts.length = 0 then putR r.room (bl r.fast) (bl text) else .inl 260) else .inl 260

set_option maxHeartbeats 1600000 in
set_option maxRecDepth 100000 in
theorem Put_any (r : Rib) (v : Value) (text : ByteArray) (w : World) (hv : ActsIn w.heap.size w v r.acts) (hG : G w) :
    Calls Tryz.prog 43 #[.agg #[.int .i64 r.room, .string r.fast, v], .string text] w (PutOut w (PutR r text)) := by
  have HV := Lib.hid hv
  have h5 := hG.low
  obtain ⟨A, cap, rfl, -, -, -⟩ := hv
  have hB0 : Below w.heap.size w (w.alloc (Obj.cells #[Value.int IntKind.i64 r.room, Value.string r.fast, .slice A r.acts.length cap] 24)) := (Below.refl _ _).alloc (Nat.le_refl _) _
  have HV0 := Lib.hid ((HV.out.below hB0).mono (B' := (w.alloc (Obj.cells #[Value.int IntKind.i64 r.room, Value.string r.fast, .slice A r.acts.length cap] 24)).heap.size) (by simp))
  clear hB0
  by_cases hval : r.valid
  · have hchk : checkR r.room r.fast r.acts = 0 := hval
    have HVAL := Lib.hid hval
    clear hval
    go_enter Tryz.func43, Tryz.ntmps43
    go_wp2_with fail
    refine (check_any r.room r.fast _ r.acts _ HV0.out).mono ?_
    rintro e w1 ⟨rfl, hb1⟩
    rw [hchk]
    have BX := Lib.hid (one_new hb1)
    have HB1 := Lib.hid (below_one hb1)
    have hz1 : w.heap.size < w1.heap.size := by have := hb1.size; simp at this; omega
    have G1 := Lib.hid (hG.below HB1.out h5)
    clear hb1
    have e0 : w1.cell? ⟨w.heap.size, 0, none⟩ = some (.int .i64 r.room) := Lib.cell_of_heap BX.out 0
    have e1 : w1.cell? ⟨w.heap.size, 1, none⟩ = some (.string r.fast) := Lib.cell_of_heap BX.out 1
    have e2 : w1.cell? ⟨w.heap.size, 2, none⟩ = some (.slice A r.acts.length cap) := Lib.cell_of_heap BX.out 2
    by_cases ht : 2000000 < text.size
    · have hpr : PutR r text = .inl 7 := by unfold PutR; rw [if_pos HVAL.out, if_pos ht]
      have HPR := Lib.hid hpr
      clear hpr
      go_wp2_with fail
      refine bodyPost_ret (v := .tuple #[.slice none 0 0, .int .i64 7]) (by simp [results, Tryz.results43, go_sem]) rfl ?_
      exact ⟨HB1.out, by rw [HPR.out]⟩
    · have hpr : PutR r text = if r.acts.length = 0 then putR r.room (bl r.fast) (bl text) else .inl 260 := by unfold PutR; rw [if_pos HVAL.out, if_neg ht]
      have HPR := Lib.hid hpr
      clear hpr
      go_wp2_with fail
      refine (put_any r.room r.fast text A r.acts.length cap _ (valid_fast HVAL.out) (by omega) G1.out).mono ?_
      rintro e w2 ⟨hb2, he⟩
      have HB2 := Lib.hid (HB1.out.trans (hb2.mono (by omega)))
      rw [← HPR.out] at he
      have hP : ∀ o : Int ⊕ List RAct, PutR r text = o → PutOut w (PutR r text) = PutOut w o := fun o h => by rw [h]
      cases ho : PutR r text with
      | inl er =>
        rw [ho] at he
        simp only at he
        subst he
        have HO := Lib.hid ho
        clear ho
        go_wp2_with fail
        refine bodyPost_ret (v := .tuple #[.slice none 0 0, .int .i64 er]) (by simp [results, Tryz.results43, go_sem]) rfl ?_
        exact ⟨HB2.out, by rw [HO.out]⟩
      | inr l =>
        rw [ho] at he
        simp only at he
        obtain ⟨A2, c2, rfl, HA⟩ := he
        have HO := Lib.hid ho
        clear ho
        go_wp2_with fail
        refine bodyPost_ret (v := .tuple #[.slice A2 l.length c2, .int .i64 0]) (by simp [results, Tryz.results43, go_sem]) rfl ?_
        exact ⟨HB2.out, by rw [HO.out]; exact ⟨A2, c2, rfl, OwnActs.mono' HA.out (by omega)⟩⟩
  · have hchk := chk_bad hval
    have HPR : Hid (PutR r text = .inl 260) := by simp only [Hid]; unfold PutR; rw [if_neg hval]
    clear hval
    go_enter Tryz.func43, Tryz.ntmps43
    go_wp2_with fail
    refine (check_any r.room r.fast _ r.acts _ HV0.out).mono ?_
    rintro e w1 ⟨rfl, hb1⟩
    rw [hchk]
    have HB1 := Lib.hid (below_one hb1)
    clear hb1
    go_wp2_with fail
    refine bodyPost_ret (v := .tuple #[.slice none 0 0, .int .i64 260]) (by simp [results, Tryz.results43, go_sem]) rfl ?_
    exact ⟨HB1.out, by rw [HPR.out]⟩

def getR (r : Rib) : Int ⊕ (ByteArray × Int) :=
  if r.valid then (if (bl r.fast).length < 45 then .inl 261 else match heldR (bl r.fast) with
    | none => .inl 262
    | some ((n, t), _) => .inr (mkB t, n)) else .inl 260

def GetOut (w : World) (o : Int ⊕ (ByteArray × Int)) (e : Ending) (w' : World) : Prop :=
  Below w.heap.size w w' ∧ match o with
    | .inl er => e = .returned (.tuple #[.string ⟨#[]⟩, .int .i64 0, .int .i64 er])
    | .inr (t, n) => e = .returned (.tuple #[.string t, .int .i64 n, .int .i64 0])

set_option maxHeartbeats 1600000 in
set_option maxRecDepth 100000 in
theorem get_any (r : Rib) (v : Value) (w : World) (hv : ActsIn w.heap.size w v r.acts) (hG : G w) :
    Calls Tryz.prog 18 #[.agg #[.int .i64 r.room, .string r.fast, v]] w (GetOut w (getR r)) := by
  have HV := Lib.hid hv
  have h5 := hG.low
  obtain ⟨A, cap, rfl, -, -, -⟩ := hv
  have hB0 : Below w.heap.size w (w.alloc (Obj.cells #[Value.int IntKind.i64 r.room, Value.string r.fast, .slice A r.acts.length cap] 24)) := (Below.refl _ _).alloc (Nat.le_refl _) _
  have HV0 := Lib.hid ((HV.out.below hB0).mono (B' := (w.alloc (Obj.cells #[Value.int IntKind.i64 r.room, Value.string r.fast, .slice A r.acts.length cap] 24)).heap.size) (by simp))
  clear hB0
  by_cases hval : r.valid
  · have hchk : checkR r.room r.fast r.acts = 0 := hval
    have HVAL := Lib.hid hval
    have hgr : getR r = getR r := rfl
    conv at hgr => rhs; unfold getR
    rw [if_pos hval] at hgr
    have HGR := Lib.hid hgr
    clear hgr hval
    go_enter Tryz.func18, Tryz.ntmps18
    go_wp2_with fail
    refine (check_any r.room r.fast _ r.acts _ HV0.out).mono ?_
    rintro e w1 ⟨rfl, hb1⟩
    rw [hchk]
    have BX := Lib.hid (one_new hb1)
    have HB1 := Lib.hid (below_one hb1)
    have hz1 : w.heap.size < w1.heap.size := by have := hb1.size; simp at this; omega
    have G1 := Lib.hid (hG.below HB1.out h5)
    clear hb1
    have e0 : w1.cell? ⟨w.heap.size, 0, none⟩ = some (.int .i64 r.room) := Lib.cell_of_heap BX.out 0
    have e1 : w1.cell? ⟨w.heap.size, 1, none⟩ = some (.string r.fast) := Lib.cell_of_heap BX.out 1
    have e2 : w1.cell? ⟨w.heap.size, 2, none⟩ = some (.slice A r.acts.length cap) := Lib.cell_of_heap BX.out 2
    go_wp2_with fail
    refine (held_any r.room r.fast A r.acts.length cap _ (valid_fast HVAL.out) G1.out).mono ?_
    rintro e w2 ⟨hb2, he⟩
    have HB2 := Lib.hid (HB1.out.trans (hb2.mono (by omega)))
    have hz2 : w.heap.size ≤ w2.heap.size := HB2.out.size
    clear hb2
    by_cases h45 : (bl r.fast).length < 45
    · rw [if_pos h45] at he
      subst he
      have H45 := Lib.hid h45
      clear h45
      go_wp2_with fail
      refine bodyPost_ret (v := .tuple #[.string ⟨#[]⟩, .int .i64 0, .int .i64 261]) (by simp [results, Tryz.results18, go_sem]) rfl ?_
      exact ⟨HB2.out.alloc (by omega) _, by rw [HGR.out, if_pos H45.out]⟩
    · rw [if_neg h45] at he
      have H45 := Lib.hid h45
      clear h45
      cases hh : heldR (bl r.fast) with
      | none =>
        rw [hh] at he
        simp only at he
        subst he
        have HH := Lib.hid hh
        clear hh
        go_wp2_with fail
        refine bodyPost_ret (v := .tuple #[.string ⟨#[]⟩, .int .i64 0, .int .i64 262]) (by simp [results, Tryz.results18, go_sem]) rfl ?_
        exact ⟨HB2.out.alloc (by omega) _, by rw [HGR.out, if_neg H45.out, HH.out]⟩
      | some q =>
        obtain ⟨⟨x, t⟩, k⟩ := q
        rw [hh] at he
        simp only at he
        subst he
        have HH := Lib.hid hh
        clear hh
        go_wp2_with fail
        go_quiet (fail)
        go_wp2_with fail
        refine bodyPost_ret (v := .tuple #[.string (mkB t), .int .i64 x, .int .i64 0]) (by simp [results, Tryz.results18, go_sem]) rfl ?_
        refine ⟨?_, by rw [HGR.out, if_neg H45.out, HH.out]⟩
        repeat (first | exact HB2.out | refine below_drewN' ?_ | refine Below.alloc ?_ (by omega) _)
  · have hchk := chk_bad hval
    have HPR : Hid (getR r = .inl 260) := by simp only [Hid]; unfold getR; rw [if_neg hval]
    clear hval
    go_enter Tryz.func18, Tryz.ntmps18
    go_wp2_with fail
    refine (check_any r.room r.fast _ r.acts _ HV0.out).mono ?_
    rintro e w1 ⟨rfl, hb1⟩
    rw [hchk]
    have HB1 := Lib.hid (below_one hb1)
    clear hb1
    go_wp2_with fail
    refine bodyPost_ret (v := .tuple #[.string ⟨#[]⟩, .int .i64 0, .int .i64 260]) (by simp [results, Tryz.results18, go_sem]) rfl ?_
    exact ⟨HB1.out, by rw [HPR.out]⟩
end Go.Proofs.YtinkdjeanjhkbaaGreatDoor
