/-
  The walk of image.Hurt.
-/
import Derived.Test.YtinkdjeanjhkbaaGreatDoorO
import Derived.Laws.IdiomStrings
namespace Go.Proofs.YtinkdjeanjhkbaaGreatDoor
open Go.RowKit
attribute [local go_sem] size_mkB

def hurtL (l : List UInt8) (k : Nat) (b : UInt8) : List UInt8 := l.take k ++ [(l.getD k 0) ^^^ b] ++ l.drop (k + 1)

def hurtR (r : Rib) (at_ : Int) (b : UInt8) : Option Rib :=
  if r.valid ∧ 0 ≤ at_ ∧ at_ < r.fast.size then some { r with fast := mkB (hurtL (bl r.fast) at_.toNat b) } else none

theorem xor_u8 (a b : UInt8) : UInt8.ofNat (bits .xor .u8 (a.toNat : Int) (b.toNat : Int)).toNat = a ^^^ b := by
  have ha := a.toNat_lt
  have hb := b.toNat_lt
  have hx : a.toNat ^^^ b.toNat < 2 ^ 8 := Nat.xor_lt_two_pow (by omega) (by omega)
  have hw : ∀ n : Int, IntKind.u8.wrap n = n % 256 := fun n => by simp [IntKind.wrap, IntKind.bits, IntKind.signed]
  have h1 : (BitVec.ofInt 8 (a.toNat : Int)).toNat = a.toNat := by
    rw [BitVec.ofInt_natCast, BitVec.toNat_ofNat]; exact Nat.mod_eq_of_lt (by omega)
  have h2 : (BitVec.ofInt 8 (b.toNat : Int)).toNat = b.toNat := by
    rw [BitVec.ofInt_natCast, BitVec.toNat_ofNat]; exact Nat.mod_eq_of_lt (by omega)
  have e : bits .xor .u8 (a.toNat : Int) (b.toNat : Int) = ((a.toNat ^^^ b.toNat : Nat) : Int) := by
    show IntKind.u8.wrap ((BitVec.ofInt 8 (a.toNat : Int) ^^^ BitVec.ofInt 8 (b.toNat : Int)).toNat : Int) = _
    rw [BitVec.toNat_xor, h1, h2, hw]
    omega
  rw [e]
  apply UInt8.toNat_inj.1
  simp [UInt8.toNat_xor]

theorem conv_run (x : Int) (W : World) : (convert 54 9 (.slice (some ⟨W.heap.size, 0, none⟩) 1 1)).run Tryz.prog (W.alloc (.cells #[.int .u8 x] 5)) = .ok (.string (mkB [UInt8.ofNat x.toNat])) (W.alloc (.cells #[.int .u8 x] 5)) := by
  rw [run_convert_bytes_string _ 54 9 5 _ 1 1 Tryz.underlying54 Tryz.underlying5 Tryz.underlying9]
  have hl := run_loadCells_list (P := Tryz.prog) (W.alloc (.cells #[.int .u8 x] 5)) ⟨W.heap.size, 0, none⟩ [.int .u8 x] (fun j v hj => by
    rw [addr_add, Nat.zero_add, World.cell?_alloc_new]; simpa using hj)
  exact run_bytesToString (P := Tryz.prog) _ _ 1 1 [x] hl

theorem conv_run' (x : Int) (W : World) : (convert 54 9 (.slice (some ⟨W.heap.size, 0, none⟩) 1 1)).run Tryz.prog (W.alloc (.cells #[.int .u8 x] 5)).drew = .ok (.string (mkB [UInt8.ofNat x.toNat])) (W.alloc (.cells #[.int .u8 x] 5)).drew := by
  rw [run_convert_bytes_string _ 54 9 5 _ 1 1 Tryz.underlying54 Tryz.underlying5 Tryz.underlying9]
  have hl := run_loadCells_list (P := Tryz.prog) (W.alloc (.cells #[.int .u8 x] 5)).drew ⟨W.heap.size, 0, none⟩ [.int .u8 x] (fun j v hj => by
    rw [addr_add, Nat.zero_add]; exact (World.cell?_alloc_new _ _ _ _).trans (by simpa using hj))
  exact run_bytesToString (P := Tryz.prog) _ _ 1 1 [x] hl

set_option maxHeartbeats 1600000 in
set_option maxRecDepth 100000 in
theorem hurt_any (r : Rib) (v : Value) (at_ : Int) (b : UInt8) (w : World) (hv : ActsIn w.heap.size w v r.acts) (ha : -9223372036854775808 ≤ at_ ∧ at_ ≤ 9223372036854775807) :
    Calls Tryz.prog 9 #[.agg #[.int .i64 r.room, .string r.fast, v], .int .i64 at_, .int .u8 b.toNat] w (RibOut (if r.valid then 1 else 260) (hurtR r at_ b) w) := by
  obtain ⟨E, hE⟩ : ∃ E : Int, E = if r.valid then 1 else 260 := ⟨_, rfl⟩
  rw [← hE]
  have HE := Lib.hid hE
  clear hE
  have HV := Lib.hid hv
  obtain ⟨A, cap, rfl, -, -, -⟩ := hv
  have hB0 : Below w.heap.size w ((w.alloc (Obj.cells #[Value.int IntKind.i64 r.room, Value.string r.fast, .slice A r.acts.length cap] 24)).alloc (Obj.cells #[Value.int IntKind.i64 0, Value.string { data := #[] }, Value.slice none 0 0] 24)) := ((Below.refl _ _).alloc (Nat.le_refl _) _).alloc (by simp) _
  have HV0 := Lib.hid ((HV.out.below hB0).mono (B' := ((w.alloc (Obj.cells #[Value.int IntKind.i64 r.room, Value.string r.fast, .slice A r.acts.length cap] 24)).alloc (Obj.cells #[Value.int IntKind.i64 0, Value.string { data := #[] }, Value.slice none 0 0] 24)).heap.size) (by simp; omega))
  clear hB0
  by_cases hval : r.valid
  · have hchk : checkR r.room r.fast r.acts = 0 := hval
    have HVAL := Lib.hid hval
    clear hval
    go_enter Tryz.func9, Tryz.ntmps9
    go_wp2_with fail
    refine (check_any r.room r.fast _ r.acts _ HV0.out).mono ?_
    rintro e w1 ⟨rfl, hb1⟩
    rw [hchk]
    obtain ⟨bx, rs, hb, hz1⟩ := two_new hb1
    have BX := Lib.hid bx
    have RS := Lib.hid rs
    have HB1 := Lib.hid hb
    clear hb1 bx rs hb
    have hz0 : w.heap.size < w1.heap.size := by omega
    have e0 : w1.cell? ⟨w.heap.size, 0, none⟩ = some (.int .i64 r.room) := Lib.cell_of_heap BX.out 0
    have e1 : w1.cell? ⟨w.heap.size, 1, none⟩ = some (.string r.fast) := Lib.cell_of_heap BX.out 1
    have e2 : w1.cell? ⟨w.heap.size, 2, none⟩ = some (.slice A r.acts.length cap) := Lib.cell_of_heap BX.out 2
    have e3 := Lib.frozen_of_heap BX.out
    have g0 : w1.cell? ⟨w.heap.size + 1, 0, none⟩ = some (.int .i64 0) := Lib.cell_of_heap RS.out 0
    have g1 : w1.cell? ⟨w.heap.size + 1, 1, none⟩ = some (.string ⟨#[]⟩) := Lib.cell_of_heap RS.out 1
    have g2 : w1.cell? ⟨w.heap.size + 1, 2, none⟩ = some (.slice none 0 0) := Lib.cell_of_heap RS.out 2
    have g3 := Lib.frozen_of_heap RS.out
    by_cases hat : 0 ≤ at_ ∧ at_ < r.fast.size
    · obtain ⟨hat0, hat1⟩ := hat
      obtain ⟨k, rfl⟩ := Int.eq_ofNat_of_zero_le hat0
      have hk : k < r.fast.size := by omega
      have hfz := valid_fast HVAL.out
      clear hat0 hat1
      have s1 : ∀ W : World, (Instr.slice 9 (.string r.fast) none (some (.int .i64 (k : Int))) none).run Tryz.prog W = .ok (.string (r.fast.extract 0 k)) W := by
        intro W
        have hj : (0 : Int) ≤ (k : Int) ∧ (k : Int) ≤ (r.fast.size : Int) := ⟨by omega, by omega⟩
        simp [Instr.slice, Instr.sliceBounds, Instr.sliceBound, asIntOf, run_underlying Tryz.underlying9, hj]
        try (intro hc; omega)
      have s2 : ∀ W : World, (Instr.slice 9 (.string r.fast) (some (.int .i64 ((k : Int) + 1))) none none).run Tryz.prog W = .ok (.string (r.fast.extract (k + 1) r.fast.size)) W := by
        intro W
        have hj : (0 : Int) ≤ (k : Int) + 1 ∧ (k : Int) + 1 ≤ (r.fast.size : Int) := ⟨by omega, by omega⟩
        simp [Instr.slice, Instr.sliceBounds, Instr.sliceBound, asIntOf, run_underlying Tryz.underlying9, hj]
        try (intro hc; omega)
      have cv := conv_run
      have cv2 := conv_run'
      generalize hX : r.fast.extract 0 k = X at s1
      generalize hY : r.fast.extract (k + 1) r.fast.size = Y at s2
      have hXs : X.size ≤ 6000000 := by rw [← hX, ByteArray.size_extract]; omega
      have hYs : Y.size ≤ 6000000 := by rw [← hY, ByteArray.size_extract]; omega
      have HX := Lib.hid hX
      have HY := Lib.hid hY
      clear hX hY
      have c1 := fun (x : UInt8) (W : World) => cat_run (P := Tryz.prog) (a := X) (b := mkB [x]) W (by rw [size_mkB]; simp; omega)
      have c2 := fun (x : UInt8) (W : World) => cat_run (P := Tryz.prog) (a := X ++ mkB [x]) (b := Y) W (by rw [ByteArray.size_append, size_mkB]; simp; omega)
      go_wp2_with fail
      go_region
      obtain ⟨z, hzE⟩ : ∃ z, X ++ mkB [UInt8.ofNat (bits BinOp.xor IntKind.u8 (r.fast[k].toNat : Int) (b.toNat : Int)).toNat] ++ Y = z := ⟨_, rfl⟩
      rw [hzE]
      have HZ : Hid (z = mkB (hurtL (bl r.fast) k b)) := by
        simp only [Hid]
        rw [← hzE, ← HX.out, ← HY.out]
        refine bl_inj ?_
        rw [bl_append, bl_append, bl_extract, bl_extract, bl_mk, bl_mk, xor_u8]
        simp only [hurtL, List.drop_zero, Nat.sub_zero]
        congr 1
        · congr 2
          have hkl : k < (bl r.fast).length := by rw [← size_bl]; exact hk
          simp only [List.getD_eq_getElem?_getD, List.getElem?_eq_getElem hkl]
          rfl
        · rw [List.take_of_length_le (by simp [size_bl])]
      obtain ⟨o5, ho5⟩ : ∃ o5, Obj.cells #[Value.int IntKind.u8 (bits BinOp.xor IntKind.u8 (r.fast[k].toNat : Int) (b.toNat : Int))] 5 = o5 := ⟨_, rfl⟩
      rw [ho5]
      have B5 : Hid ((((w1.setCell ⟨w.heap.size, 1, none⟩ (.string z)).alloc o5).drew).heap[w.heap.size]? = some (.cells #[.int .i64 r.room, .string z, .slice A r.acts.length cap] 24 (0, 0))) := by
        show ((w1.setCell ⟨w.heap.size, 1, none⟩ (.string z)).alloc o5).heap[w.heap.size]? = _
        rw [Below.heap_alloc _ _ _ (by simp [World.setCell]; omega), heap_setCell_at BX.out]; rfl
      have R5 : Hid ((((w1.setCell ⟨w.heap.size, 1, none⟩ (.string z)).alloc o5).drew).heap[w.heap.size + 1]? = some (.cells #[.int .i64 0, .string ⟨#[]⟩, .slice none 0 0] 24 (0, 0))) := by
        show ((w1.setCell ⟨w.heap.size, 1, none⟩ (.string z)).alloc o5).heap[w.heap.size + 1]? = _
        rw [Below.heap_alloc _ _ _ (by simp [World.setCell]; omega), Below.heap_setCell _ _ _ _ (by simp)]; exact RS.out
      have HB5 : Hid (Below w.heap.size w ((w1.setCell ⟨w.heap.size, 1, none⟩ (.string z)).alloc o5).drew) := ((HB1.out.setCell (by simp) _).alloc (by simp [World.setCell]; omega) _).drew
      have hz5 : w.heap.size + 1 < (((w1.setCell ⟨w.heap.size, 1, none⟩ (.string z)).alloc o5).drew).heap.size := by show _ < ((w1.setCell ⟨w.heap.size, 1, none⟩ (.string z)).alloc o5).heap.size; simp [World.setCell]; omega
      have HV5 := Lib.hid (((HV.out.below HB5.out).mono (B' := (((w1.setCell ⟨w.heap.size, 1, none⟩ (.string z)).alloc o5).drew).heap.size) (by omega)))
      generalize ((w1.setCell ⟨w.heap.size, 1, none⟩ (.string z)).alloc o5).drew = W5 at B5 R5 HB5 hz5 HV5 ⊢
      clear e0 e1 e2 e3 g0 g1 g2 g3 s1 s2 cv cv2 c1 c2
      have e2 : W5.cell? ⟨w.heap.size, 2, none⟩ = some (.slice A r.acts.length cap) := Lib.cell_of_heap B5.out 2
      have hz5' : w.heap.size < W5.heap.size := by omega
      go_wp2_with fail
      refine (clone_any _ r.acts _ HV5.out (by have := valid_len HVAL.out; omega)).mono ?_
      rintro e w6 ⟨A6, c6, rfl, HO6, hb6⟩
      have B6 := Lib.hid ((hb6.block _ hz5').trans B5.out)
      have R6 := Lib.hid ((hb6.block _ hz5).trans R5.out)
      have HB6 := Lib.hid (HB5.out.trans (hb6.mono (by omega)))
      have hz6 : W5.heap.size ≤ w6.heap.size := hb6.size
      clear hb6 e2
      have e0 : w6.cell? ⟨w.heap.size, 0, none⟩ = some (.int .i64 r.room) := Lib.cell_of_heap B6.out 0
      have e1 : w6.cell? ⟨w.heap.size, 1, none⟩ = some (.string z) := Lib.cell_of_heap B6.out 1
      have e2 : w6.cell? ⟨w.heap.size, 2, none⟩ = some (.slice A r.acts.length cap) := Lib.cell_of_heap B6.out 2
      have e3 := Lib.frozen_of_heap B6.out
      have g0 : w6.cell? ⟨w.heap.size + 1, 0, none⟩ = some (.int .i64 0) := Lib.cell_of_heap R6.out 0
      have g1 : w6.cell? ⟨w.heap.size + 1, 1, none⟩ = some (.string ⟨#[]⟩) := Lib.cell_of_heap R6.out 1
      have g2 : w6.cell? ⟨w.heap.size + 1, 2, none⟩ = some (.slice none 0 0) := Lib.cell_of_heap R6.out 2
      have g3 := Lib.frozen_of_heap R6.out
      go_wp2_with fail
      refine bodyPost_ret (v := .tuple #[.agg #[.int .i64 r.room, .string z, .slice A6 r.acts.length c6], .int .i64 0]) (by simp [results, Tryz.results9, go_sem, g0, g1, g2, e0, e1]) rfl ?_
      refine ⟨A6, c6, ?_, ?_⟩
      · rw [hurtR, if_pos ⟨HVAL.out, by omega, by omega⟩]
        refine ⟨OwnActs.reads (base := W5.heap.size) (l := r.acts) ?_, by rw [HZ.out]; rfl⟩
        refine ownsRow_setCell_below (ownsRow_setCell_below (ownsRow_setCell_below (ownsRow_setCell_below HO6.out ?_ _) ?_ _) ?_ _) ?_ _ <;> (simp; omega)
      · exact Below.setCell (Below.setCell (Below.setCell (Below.setCell HB6.out (by simp) _) (by simp) _) (by simp) _) (by simp) _
    · have HSP : Hid (hurtR r at_ b = none) := by simp only [Hid]; rw [hurtR, if_neg (fun h => hat h.2)]
      have hv1 : Hid (E = 1) := by simp only [Hid]; rw [HE.out, if_pos HVAL.out]
      by_cases hat0 : at_ < 0
      · go_wp2_with fail
        refine bodyPost_ret (v := .tuple #[.agg #[.int .i64 0, .string ⟨#[]⟩, .slice none 0 0], .int .i64 1]) (by simp [results, Tryz.results9, go_sem, g0, g1, g2]) rfl ?_
        refine ⟨none, 0, by rw [HSP.out, hv1.out], ?_⟩
        exact Below.setCell (Below.setCell (Below.setCell HB1.out (by simp) _) (by simp) _) (by simp) _
      · have hat1 : (r.fast.size : Int) ≤ at_ := by omega
        clear hat
        go_wp2_with fail
        refine bodyPost_ret (v := .tuple #[.agg #[.int .i64 0, .string ⟨#[]⟩, .slice none 0 0], .int .i64 1]) (by simp [results, Tryz.results9, go_sem, g0, g1, g2]) rfl ?_
        refine ⟨none, 0, by rw [HSP.out, hv1.out], ?_⟩
        exact Below.setCell (Below.setCell (Below.setCell HB1.out (by simp) _) (by simp) _) (by simp) _
  · have hchk := chk_bad hval
    have HSP : Hid (hurtR r at_ b = none) := by simp only [Hid]; rw [hurtR, if_neg (fun h => hval h.1)]
    have hv1 : Hid (E = 260) := by simp only [Hid]; rw [HE.out, if_neg hval]
    clear hval
    go_enter Tryz.func9, Tryz.ntmps9
    go_wp2_with fail
    refine (check_any r.room r.fast _ r.acts _ HV0.out).mono ?_
    rintro e w1 ⟨rfl, hb1⟩
    rw [hchk]
    obtain ⟨bx, rs, hb, hz1⟩ := two_new hb1
    have RS := Lib.hid rs
    have HB1 := Lib.hid hb
    clear hb1 bx rs hb
    have g0 : w1.cell? ⟨w.heap.size + 1, 0, none⟩ = some (.int .i64 0) := Lib.cell_of_heap RS.out 0
    have g1 : w1.cell? ⟨w.heap.size + 1, 1, none⟩ = some (.string ⟨#[]⟩) := Lib.cell_of_heap RS.out 1
    have g2 : w1.cell? ⟨w.heap.size + 1, 2, none⟩ = some (.slice none 0 0) := Lib.cell_of_heap RS.out 2
    have g3 := Lib.frozen_of_heap RS.out
    go_wp2_with fail
    refine bodyPost_ret (v := .tuple #[.agg #[.int .i64 0, .string ⟨#[]⟩, .slice none 0 0], .int .i64 260]) (by simp [results, Tryz.results9, go_sem, g0, g1, g2]) rfl ?_
    refine ⟨none, 0, by rw [HSP.out, hv1.out], ?_⟩
    exact Below.setCell (Below.setCell (Below.setCell HB1.out (by simp) _) (by simp) _) (by simp) _
end Go.Proofs.YtinkdjeanjhkbaaGreatDoor
