/-
  The walk of the reference's Lose.
-/
import Derived.Test.YtinkdjeanjhkbaaGreatDoorYD
import Derived.Deep.CutRange
namespace Go.Proofs.YtinkdjeanjhkbaaGreatDoor
open Go.RowKit
attribute [local go_sem] size_mkB

/-- Lose's own blocks: the ribbon, the three numbers, the result -/
structure LInv (w W : World) (r : Rib) (A : Option Addr) (cap : Nat) (a b c : Int) : Prop where
  box : W.heap[w.heap.size]? = some (.cells #[.int .i64 r.room, .string r.fast, .slice A r.acts.length cap] 24 (0, 0))
  arr : W.heap[w.heap.size + 1]? = some (.cells #[.int .i64 a, .int .i64 b, .int .i64 c] 25 (0, 0))
  res : W.heap[w.heap.size + 2]? = some (.cells #[.int .i64 0, .string ⟨#[]⟩, .slice none 0 0] 24 (0, 0))
  low : Below w.heap.size w W
  size : w.heap.size + 2 < W.heap.size

theorem LInv.below {w W W' : World} {r : Rib} {A : Option Addr} {cap B : Nat} {a b c : Int} (h : LInv w W r A cap a b c) (hb : Below B W W') (hB : w.heap.size + 3 ≤ B) : LInv w W' r A cap a b c :=
  ⟨(hb.block _ (by omega)).trans h.box, (hb.block _ (by omega)).trans h.arr, (hb.block _ (by omega)).trans h.res, h.low.trans (hb.mono (by omega)), Nat.lt_of_lt_of_le h.size hb.size⟩

theorem LInv.cells {w W : World} {r : Rib} {A : Option Addr} {cap : Nat} {a b c : Int} (h : LInv w W r A cap a b c) :
    (W.cell? ⟨w.heap.size, 0, none⟩ = some (.int .i64 r.room) ∧ W.cell? ⟨w.heap.size, 1, none⟩ = some (.string r.fast) ∧ W.cell? ⟨w.heap.size, 2, none⟩ = some (.slice A r.acts.length cap)) ∧
    (W.cell? ⟨w.heap.size + 1, 0, none⟩ = some (.int .i64 a) ∧ W.cell? ⟨w.heap.size + 1, 1, none⟩ = some (.int .i64 b) ∧ W.cell? ⟨w.heap.size + 1, 2, none⟩ = some (.int .i64 c)) ∧
    (W.cell? ⟨w.heap.size + 2, 0, none⟩ = some (.int .i64 0) ∧ W.cell? ⟨w.heap.size + 2, 1, none⟩ = some (.string ⟨#[]⟩) ∧ W.cell? ⟨w.heap.size + 2, 2, none⟩ = some (.slice none 0 0)) ∧
    (∀ j, W.frozen? ⟨w.heap.size + 2, j, none⟩ = false) ∧ w.heap.size < W.heap.size ∧ w.heap.size + 1 < W.heap.size :=
  ⟨⟨Lib.cell_of_heap h.box 0, Lib.cell_of_heap h.box 1, Lib.cell_of_heap h.box 2⟩, ⟨Lib.cell_of_heap h.arr 0, Lib.cell_of_heap h.arr 1, Lib.cell_of_heap h.arr 2⟩,
   ⟨Lib.cell_of_heap h.res 0, Lib.cell_of_heap h.res 1, Lib.cell_of_heap h.res 2⟩, Lib.frozen_of_heap h.res, by have := h.size; omega, by have := h.size; omega⟩

theorem LInv.start {w w1 : World} {r : Rib} {A : Option Addr} {cap : Nat} {a b c : Int}
    (h : Below (((w.alloc (.cells #[.int .i64 r.room, .string r.fast, .slice A r.acts.length cap] 24)).alloc (.cells #[.int .i64 a, .int .i64 b, .int .i64 c] 25)).alloc (.cells #[.int .i64 0, .string ⟨#[]⟩, .slice none 0 0] 24)).heap.size
      (((w.alloc (.cells #[.int .i64 r.room, .string r.fast, .slice A r.acts.length cap] 24)).alloc (.cells #[.int .i64 a, .int .i64 b, .int .i64 c] 25)).alloc (.cells #[.int .i64 0, .string ⟨#[]⟩, .slice none 0 0] 24)) w1) : LInv w w1 r A cap a b c := by
  refine ⟨?_, ?_, ?_, ?_, ?_⟩
  · rw [h.block _ (by simp; omega), Below.heap_alloc _ _ _ (by simp; omega), Below.heap_alloc _ _ _ (by simp)]; exact heap_alloc_new w _
  · rw [h.block _ (by simp), Below.heap_alloc _ _ _ (by simp)]
    have := heap_alloc_new (w.alloc (.cells #[.int .i64 r.room, .string r.fast, .slice A r.acts.length cap] 24)) (.cells #[.int .i64 a, .int .i64 b, .int .i64 c] 25)
    simpa using this
  · rw [h.block _ (by simp)]
    have := heap_alloc_new ((w.alloc (.cells #[.int .i64 r.room, .string r.fast, .slice A r.acts.length cap] 24)).alloc (.cells #[.int .i64 a, .int .i64 b, .int .i64 c] 25)) (.cells #[.int .i64 0, .string ⟨#[]⟩, .slice none 0 0] 24)
    simpa using this
  · exact ((((Below.refl _ _).alloc (Nat.le_refl _) _).alloc (by simp) _).alloc (by simp; omega) _).trans (h.mono (by simp; omega))
  · have := h.size; simp at this; omega

/-- the reference's bytes are the program's -/
theorem lose_ref {room : Int} {base s : List UInt8} {b c : Int} {k n : Nat} (hr : (base.length : Int) ≤ room) (hk : k = (b % (s.length + 1)).toNat) (hn : n = (c % (k + 1)).toNat) :
    (base ++ (s.take (k - n) ++ List.replicate n 126)).take (min ((base ++ (s.take (k - n) ++ List.replicate n 126)).length : Int) room).toNat = loseL room base s b c := by
  unfold loseL
  simp only
  rw [← hk, ← hn]
  generalize s.take (k - n) ++ List.replicate n 126 = t
  rw [List.take_append]
  congr 1
  · rw [List.take_of_length_le]
    simp only [List.length_append]
    omega
  · congr 1
    simp only [List.length_append]
    omega

theorem three_bytes' (t : List UInt8) (n : Nat) : byteVals (t ++ List.replicate (n + 1) 126) = byteVals (t ++ List.replicate n 126) ++ [.int .u8 126] := by
  rw [List.replicate_succ', ← List.append_assoc, byteVals_append]; rfl

set_option maxHeartbeats 3200000 in
set_option maxRecDepth 100000 in
theorem rlose_any (r : Rib) (v : Value) (a b c : Int) (w : World) (hv : ActsIn w.heap.size w v r.acts) :
    Calls Tryz.prog 8 #[.agg #[.int .i64 r.room, .string r.fast, v], .agg #[.int .i64 a, .int .i64 b, .int .i64 c]] w (RibOut 260 (loseR r a b c) w) := by
  obtain ⟨i0, hi0, hy0, hy1, hy2⟩ := info_parts infoByte
  have HV := Lib.hid hv
  obtain ⟨A, cap, rfl, -, -, -⟩ := hv
  have hB0 : Below w.heap.size w (((w.alloc (.cells #[.int .i64 r.room, .string r.fast, .slice A r.acts.length cap] 24)).alloc (.cells #[.int .i64 a, .int .i64 b, .int .i64 c] 25)).alloc (.cells #[.int .i64 0, .string ⟨#[]⟩, .slice none 0 0] 24)) :=
    (((Below.refl _ _).alloc (Nat.le_refl _) _).alloc (by simp) _).alloc (by simp; omega) _
  have HV0 := Lib.hid ((HV.out.below hB0).mono (B' := (((w.alloc (.cells #[.int .i64 r.room, .string r.fast, .slice A r.acts.length cap] 24)).alloc (.cells #[.int .i64 a, .int .i64 b, .int .i64 c] 25)).alloc (.cells #[.int .i64 0, .string ⟨#[]⟩, .slice none 0 0] 24)).heap.size) (by simp; omega))
  clear hB0
  by_cases hval : r.valid
  · have hchk : decide (checkR r.room r.fast r.acts = 0) = true := decide_eq_true hval
    have HCHK := Lib.hid hchk
    have hspec : loseR r a b c = some ⟨r.room, mkB (loseL r.room (if a % 2 = 1 then keptL (bl r.fast) r.acts else bl r.fast) (addedL r.acts) b c), []⟩ := by simp only [loseR]; rw [if_pos hval]
    have HSP := Lib.hid hspec
    obtain ⟨v1, v2, v3, v4, v5, v6⟩ := (valid_iff _ _ _).1 hval
    have V5 := Lib.hid v5
    have V6 := Lib.hid v6
    have hadd : (addedL r.acts).length ≤ 6000000 := by omega
    clear hval hchk hspec v4 v5 v6
    go_enter Tryz.func8, Tryz.ntmps8
    go_wp2_with fail
    refine (right_any r.room r.fast _ r.acts _ HV0.out).mono ?_
    rintro e w1 ⟨rfl, hb1⟩
    rw [HCHK.out]
    have HL1 := Lib.hid (LInv.start hb1)
    clear hb1
    obtain ⟨⟨d0, d1, d2⟩, ⟨a0, a1, a2⟩, -, -, z0, z1⟩ := HL1.out.cells
    go_upto_if 21 with (go_at_call 30; refine (rest_any _ _ _ (by omega) (by omega)).mono ?_; rintro e w3 ⟨rfl, rfl⟩)
    go_cut [6] (fun s6 wx => ∃ W : World, W = wx ∧ ∃ y : ByteArray, s6 = .string y ∧ y.size ≤ r.fast.size ∧ Hid (bl y = if a % 2 = 1 then keptL (bl r.fast) r.acts else bl r.fast) ∧ Hid (LInv w wx r A cap a b c))
    case first =>
      by_cases hA : a % 2 = 1
      · go_wp2_with fail
        refine (rkept_any _ _ _ _ _ ((HV.out.below HL1.out.low).mono HL1.out.low.size) V5.out (by omega)).mono ?_
        rintro e w3 ⟨y, rfl, hy, HY, hb3⟩
        have HL3 := Lib.hid (HL1.out.below hb3 (by have := HL1.out.size; omega))
        clear hb3
        go_wp2_with fail
        go_meet
        exact ⟨_, rfl, y, rfl, hy, by rw [if_pos hA]; exact HY, HL3⟩
      · have hAb : (a % 2 == 1) = false := by simp [hA]
        go_wp2_with fail
        go_meet
        exact ⟨_, rfl, r.fast, rfl, Nat.le_refl _, by rw [if_neg hA]; rfl, HL1⟩
    case rest =>
      obtain ⟨wx, rfl, y, rfl, hy, HY, HL2⟩ := hcut
      clear d0 d1 d2 a0 a1 a2 z0 z1
      obtain ⟨⟨d0, d1, d2⟩, ⟨a0, a1, a2⟩, -, -, z0, z1⟩ := HL2.out.cells
      go_wp2_with fail
      refine (radded_any _ _ _ _ _ ((HV.out.below HL2.out.low).mono HL2.out.low.size) (by omega)).mono ?_
      rintro e w3 ⟨rfl, hb3⟩
      have HL3 := Lib.hid (HL2.out.below hb3 (by have := HL2.out.size; omega))
      clear hb3 d0 d1 d2 a0 a1 a2 z0 z1
      obtain ⟨⟨d0, d1, d2⟩, ⟨a0, a1, a2⟩, -, -, z0, z1⟩ := HL3.out.cells
      obtain ⟨s, hs⟩ : ∃ s, addedL r.acts = s := ⟨_, rfl⟩
      rw [hs] at hadd HSP ⊢
      have HS := Lib.hid hs
      clear hs
      go_wp2_with fail
      refine (rest_nat _ _ _ (by omega) (by omega)).mono ?_
      rintro e w4 ⟨kN, rfl, hkN, HKN, rfl⟩
      go_wp2_with fail
      refine (rest_nat _ _ _ (by omega) (by omega)).mono ?_
      rintro e w4 ⟨nN, rfl, hnN, HNN, rfl⟩
      have hsub0 : (0 : Int) ≤ (kN : Int) - nN := by omega
      have hsub1 : (kN : Int) - nN ≤ s.length := by omega
      have s1 : ∀ W : World, (Instr.slice 9 (.string (mkB s)) none (some (.int .i64 ((kN : Int) - nN))) none).run Tryz.prog W = .ok (.string (mkB (s.take (kN - nN)))) W := by
        intro W
        have hj : (0 : Int) ≤ (kN : Int) - nN ∧ (kN : Int) - nN ≤ (s.length : Int) := ⟨by omega, by omega⟩
        have hx : (mkB s).extract 0 (kN - nN) = mkB (s.take (kN - nN)) := bl_inj (by rw [bl_extract, bl_mk, bl_mk]; simp)
        have hn : ((kN : Int) - nN).toNat = kN - nN := by omega
        simp [Instr.slice, Instr.sliceBounds, Instr.sliceBound, asIntOf, run_underlying Tryz.underlying9, hj, size_mkB, hn, hx]
        try (intro hc; omega)
      go_wp2_with (at_builtin; refine Lib.wpList_append_own_string _ rfl (.tmp 37) (.tmp 42) 54 9 rfl w3.heap.size 5 i0 Tryz.underlying54 Tryz.underlying9 hi0 hy0 hy1 hy2 (.slice (some ⟨w3.heap.size, 0, none⟩) 0 0) 0 [] rfl (World.ownsRow_lit w3 #[] 0 (Nat.le_refl _) (by decide) rfl) _ rfl (by rw [size_mkB]; simp [maxLen]; omega) (by rw [size_mkB]; simp; omega) (by simp) ?_; intro v4 w4 hown4 hgr4 hne4; clear hne4; rw [Nat.zero_add, List.nil_append, strCells_vals, bl_mk, size_mkB] at hown4)
      have hb4 : Below w3.heap.size w3 w4 := ((Below.refl _ w3).alloc (Nat.le_refl _) _).grown hgr4 (by simp) (fun g h => by simp [Value.ownBlock] at h; omega)
      have HL4 := Lib.hid (HL3.out.below hb4 HL3.out.size)
      have HO4 := Lib.hid hown4
      have HB4 := Lib.hid hb4
      have hz3 : w.heap.size + 2 < w3.heap.size := HL3.out.size
      have hbs4 : w3.heap.size ≤ w4.heap.size := hb4.size
      clear hb4 hown4 hgr4 d0 d1 d2 a0 a1 a2 z0 z1 s1 hsub0 hsub1
      generalize hB3 : w3.heap.size = B3 at HO4 hz3 hbs4
      clear hB3
      have hu0 : (List.take (kN - nN) s).length + nN ≤ 6000000 := by rw [List.length_take]; omega
      generalize ht : List.take (kN - nN) s = t at HO4 hu0
      have HT := Lib.hid ht
      clear ht
      have hcap : (w.heap.size + 1 + 1) = w.heap.size + 2 := rfl
      go_loopw [10, 11] (fun bv i wr => ∃ (k : Nat), k ≤ nN ∧ i = .int .i64 k ∧ Hid (wr.ownsRow B3 5 1 bv (t.length + k) (byteVals (t ++ List.replicate k 126))) ∧ Hid (LInv w wr r A cap a b c) ∧ B3 ≤ wr.heap.size)
        (fun _ i _ => nN - (intOf i).toNat)
      case atStart => exact ⟨0, Nat.zero_le _, rfl, by rw [Nat.add_zero, List.replicate_zero, List.append_nil]; exact HO4, HL4, hbs4⟩
      case round =>
        obtain ⟨k, hk, rfl, HO, HL, hbs⟩ := hrel
        by_cases hlt : k < nN
        · go_wp2_with (at_builtin; refine wpList_append_own _ rfl (.tmp 49) (.tmp 50) 54 rfl B3 5 i0 (.int .u8 0) 1 1 Tryz.underlying54 hi0 hy0 hy1 hy2 rfl (by decide) _ (t.length + k) _ rfl (HO.out.alloc _) ⟨wr.heap.size, 0, none⟩ 1 1 [.int .u8 126] rfl rfl (fun j u hu => by rw [addr_add, Nat.zero_add, World.cell?_alloc_new]; simpa using hu) (fun u hu => by simp at hu; subst hu; rfl) (by unfold maxLen; omega) (by omega) (by simp; omega) ?_; intro v5 w5 hown5 hgr5 hne5; clear hne5)
          have HO5 := Lib.hid hown5
          have hb5 : Below B3 wr w5 := ((Below.refl B3 wr).alloc hbs _).grown hgr5 (by simp; omega) (fun g h => (HO.out.lt g h).1)
          have HL5 := Lib.hid (HL.out.below hb5 (by omega))
          have hs5 : B3 ≤ w5.heap.size := Nat.le_trans hbs hb5.size
          clear hown5 hgr5 hb5
          go_roundw
          case rel => exact ⟨k + 1, by omega, by go_num, by rw [three_bytes']; exact HO5.out, HL5, hs5⟩
          case measure => simp [intOf]; omega
        · obtain rfl : k = nN := by omega
          have hconv := Lib.hid (conv_own HO.out)
          obtain ⟨⟨d0, d1, d2⟩, -, ⟨g0, g1, g2⟩, g3, z0, z1⟩ := HL.out.cells
          have z2 : w.heap.size + 1 + 1 < wr.heap.size := by have := HL.out.size; omega
          have hty : (mkB (t ++ List.replicate k 126)).size ≤ 6000000 := by rw [size_mkB, List.length_append, List.length_replicate]; omega
          have hcat := fun (W : World) => cat_run (P := Tryz.prog) (a := y) (b := mkB (t ++ List.replicate k 126)) W (by omega)
          go_wp2_with fail
          rw [hconv.out]
          go_wp2_with fail
          obtain ⟨z, hz⟩ : ∃ z, y ++ mkB (t ++ List.replicate k 126) = z := ⟨_, rfl⟩
          rw [hz]
          have HZ := Lib.hid hz
          have hzs : z.size ≤ 12000000 := by rw [← hz, ByteArray.size_append]; omega
          clear hcat hz hty
          go_region
          go_wp2_with fail
          refine bodyPost_ret (v := .tuple #[.agg #[.int .i64 r.room, .string (z.extract 0 (min (↑z.size) r.room).toNat), .slice none 0 0], .int .i64 0]) (by simp [results, Tryz.results8, go_sem, g0, g1, g2, d0, d1, d2]) rfl ?_
          refine ⟨none, 0, ?_, ?_⟩
          · rw [HSP.out]
            refine ⟨ActsIn.nil _ _, ?_⟩
            have hzb : bl z = bl y ++ (t ++ List.replicate k 126) := by rw [← HZ.out, bl_append, bl_mk]
            have hyl : ((bl y).length : Int) ≤ r.room := by rw [← size_bl]; omega
            have hfin := lose_ref (room := r.room) (base := bl y) (s := s) (b := b) (c := c) (k := kN) (n := k) hyl HKN.out HNN.out
            rw [HY.out] at hfin
            rw [← hfin, ← HY.out, HT.out, ← hzb, ← size_bl]
            have e : mkB ((bl z).take (min (z.size : Int) r.room).toNat) = z.extract 0 (min (z.size : Int) r.room).toNat := bl_inj (by rw [bl_mk, bl_extract]; simp)
            rw [e]
            rfl
          · refine Below.drew ?_
            exact Below.setCell (Below.setCell (Below.setCell HL.out.low (Nat.le_add_right _ 2) _) (Nat.le_add_right _ 2) _) (Nat.le_add_right _ 2) _
  · have hchk : decide (checkR r.room r.fast r.acts = 0) = false := decide_eq_false hval
    have HCHK := Lib.hid hchk
    have hspec : loseR r a b c = none := by simp only [loseR]; rw [if_neg hval]
    have HSP := Lib.hid hspec
    clear hspec hval hchk
    go_enter Tryz.func8, Tryz.ntmps8
    go_wp2_with fail
    refine (right_any r.room r.fast _ r.acts _ HV0.out).mono ?_
    rintro e w1 ⟨rfl, hb1⟩
    rw [HCHK.out]
    have HL1 := Lib.hid (LInv.start hb1)
    clear hb1
    obtain ⟨-, -, ⟨g0, g1, g2⟩, g3, -, -⟩ := HL1.out.cells
    go_wp2_with fail
    refine bodyPost_ret (v := .tuple #[.agg #[.int .i64 0, .string ⟨#[]⟩, .slice none 0 0], .int .i64 260]) (by simp [results, Tryz.results8, go_sem, g0, g1, g2]) rfl ?_
    refine ⟨none, 0, by rw [HSP.out], ?_⟩
    exact Below.setCell (Below.setCell (Below.setCell HL1.out.low (Nat.le_add_right _ 2) _) (Nat.le_add_right _ 2) _) (Nat.le_add_right _ 2) _
end Go.Proofs.YtinkdjeanjhkbaaGreatDoor
