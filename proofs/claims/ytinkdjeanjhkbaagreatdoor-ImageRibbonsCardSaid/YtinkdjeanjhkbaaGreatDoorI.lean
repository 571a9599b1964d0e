/-
  The walk of image.read: a record with which bytes begin.
-/
import Derived.Test.YtinkdjeanjhkbaaGreatDoorH
namespace Go.Proofs.YtinkdjeanjhkbaaGreatDoor
open Go.RowKit
attribute [local go_sem] size_mkB

theorem atoi_ok (s : ByteArray) (w : World) (hs : s.size ≤ 1000000) (v : Int) (h : atoiOk (bl s) = some v) :
    Calls Tryz.prog 37 #[.string s] w fun e w' => e = .returned (.tuple #[.int .i64 v, .nilIface]) ∧ Below w.heap.size w w' := by
  have h' : Lib.atoiAll s.data.toList = .ok v := by
    unfold atoiOk at h
    cases e : Lib.atoiAll (bl s) with
    | ok u => rw [e] at h; injection h with h; subst h; exact e
    | _ => rw [e] at h; cases h
  refine (Tryz.strconv_Atoi_ok s (by omega) v h' w).mono ?_
  rintro e w' ⟨rfl, hw⟩
  refine ⟨rfl, ?_⟩
  rcases hw with rfl | ⟨t, rfl⟩
  · exact Below.refl _ _
  · exact Lib.bytesWorld_below _ _ _

theorem end_cases (x : Lib.NumEnd Int) : (∃ v, x = .ok v) ∨ x = Lib.atoiAll [] ∨ x = .range := by
  cases x with
  | ok v => exact .inl ⟨v, rfl⟩
  | range => exact .inr (.inr rfl)
  | _ => exact .inr (.inl rfl)

theorem atoi_gen (s : ByteArray) (w : World) (hs : s.size ≤ 1000000) (hG : G w) :
    Calls Tryz.prog 37 #[.string s] w fun e w' => ∃ (v : Int) (er : Value), e = .returned (.tuple #[.int .i64 v, er]) ∧ Below w.heap.size w w' := by
  rcases end_cases (Lib.atoiAll s.data.toList) with ⟨u, e⟩ | e | e
  · refine (atoi_ok s w hs u (by unfold atoiOk bl; rw [e])).mono ?_
    rintro e w' ⟨rfl, hb⟩
    exact ⟨_, _, rfl, hb⟩
  · obtain ⟨_, _, ⟨t1, p1, h1⟩, _⟩ := hG
    refine (Tryz.strconv_Atoi_syntax_var s (by omega) e t1 p1 w h1).mono ?_
    rintro e w' ⟨N, rfl, _, _, hb⟩
    exact ⟨_, _, rfl, hb⟩
  · obtain ⟨_, _, _, t2, p2, h2⟩ := hG
    refine (Tryz.strconv_Atoi_range_var s (by omega) e t2 p2 w h2).mono ?_
    rintro e w' ⟨N, rfl, _, _, hb⟩
    exact ⟨_, _, rfl, hb⟩

theorem atoi_bad (s : ByteArray) (w : World) (hs : s.size ≤ 1000000) (hG : G w) (h : atoiOk (bl s) = none) :
    Calls Tryz.prog 37 #[.string s] w fun e w' => ∃ (v : Int) (N : Nat), e = .returned (.tuple #[.int .i64 v, .iface 115 (.pointer (some ⟨N, 0, none⟩))]) ∧ Below w.heap.size w w' := by
  obtain ⟨_, _, ⟨t1, p1, h1⟩, t2, p2, h2⟩ := hG
  rcases end_cases (Lib.atoiAll s.data.toList) with ⟨u, e⟩ | e | e
  · unfold atoiOk at h; unfold bl at h; rw [e] at h; cases h
  · refine (Tryz.strconv_Atoi_syntax_var s (by omega) e t1 p1 w h1).mono ?_
    rintro e w' ⟨N, rfl, _, _, hb⟩
    exact ⟨_, N, rfl, hb⟩
  · refine (Tryz.strconv_Atoi_range_var s (by omega) e t2 p2 w h2).mono ?_
    rintro e w' ⟨N, rfl, _, _, hb⟩
    exact ⟨_, N, rfl, hb⟩

/-- what read returns -/
def ReadOut (s : List UInt8) (w : World) (e : Ending) (w' : World) : Prop :=
  Below w.heap.size w w' ∧ match readL s with
    | none => ∃ (n k : Int) (t : ByteArray), e = .returned (.tuple #[.agg #[.int .i64 n, .string t, .int .i64 k], .bool false])
    | some (n, t) => e = .returned (.tuple #[.agg #[.int .i64 n, .string (mkB t), .int .i64 ((bytesL n t).length : Int)], .bool true])

theorem read_close {s s1 s2 tx y : ByteArray} {n : Int} {kN : Nat}
    (hs : readL (bl s) = match atoiOk (bl s1), atoiOk (bl s2) with
      | some n, some k =>
        if n < 0 ∨ k < 0 ∨ (bl s).length - 34 < k then none
        else if Lib.hasPrefix (bl s) (bytesL n (((bl s).drop 34).take k.toNat)) = true then some (n, ((bl s).drop 34).take k.toNat) else none
      | _, _ => none)
    (h1 : atoiOk (bl s1) = some n) (h2 : atoiOk (bl s2) = some kN) (hb : ¬ (n < 0 ∨ (kN : Int) < 0 ∨ (s.size : Int) - 34 < kN))
    (ht : bl tx = ((bl s).drop 34).take kN) (hy : bl y = bytesL n (bl tx)) :
    match readL (bl s) with
    | none => ∃ (m k : Int) (t : ByteArray), Ending.returned (.tuple #[.agg #[.int .i64 n, .string tx, .int .i64 y.size], .bool (Lib.hasPrefix s.data.toList y.data.toList)]) = .returned (.tuple #[.agg #[.int .i64 m, .string t, .int .i64 k], .bool false])
    | some (m, t) => Ending.returned (.tuple #[.agg #[.int .i64 n, .string tx, .int .i64 y.size], .bool (Lib.hasPrefix s.data.toList y.data.toList)]) = .returned (.tuple #[.agg #[.int .i64 m, .string (mkB t), .int .i64 ((bytesL m t).length : Int)], .bool true]) := by
  rw [h1, h2] at hs
  replace hs : readL (bl s) = if n < 0 ∨ (kN : Int) < 0 ∨ ((bl s).length : Int) - 34 < kN then none else if Lib.hasPrefix (bl s) (bytesL n (((bl s).drop 34).take kN)) = true then some (n, ((bl s).drop 34).take kN) else none := hs
  rw [if_neg (by rw [← size_bl]; exact hb), ← ht, ← hy] at hs
  rw [hs]
  have e : Lib.hasPrefix s.data.toList y.data.toList = Lib.hasPrefix (bl s) (bl y) := rfl
  rw [e]
  by_cases h : Lib.hasPrefix (bl s) (bl y) = true
  · rw [if_pos h, h]
    show Ending.returned _ = Ending.returned (.tuple #[.agg #[.int .i64 n, .string (mkB (bl tx)), .int .i64 ((bytesL n (bl tx)).length : Int)], .bool true])
    rw [mk_bl, ← hy, ← size_bl]
  · rw [if_neg h]
    simp only [Bool.not_eq_true] at h
    rw [h]
    exact ⟨_, _, _, rfl⟩

set_option maxHeartbeats 800000 in
set_option maxRecDepth 100000 in
theorem read_any (s : ByteArray) (w : World) (hs : s.size ≤ 6000000) (hG : G w) :
    Calls Tryz.prog 85 #[.string s] w (ReadOut (bl s) w) := by
  have hGl := hG.low
  by_cases h34 : s.size < 34
  · have hsp : readL (bl s) = none := by unfold readL; rw [if_pos (by rw [← size_bl]; exact h34)]
    have HSP := Lib.hid hsp
    clear hsp
    go_enter Tryz.func85, Tryz.ntmps85
    go_wp2_with fail
    refine bodyPost_ret (v := .tuple #[.agg #[.int .i64 0, .string ⟨#[]⟩, .int .i64 0], .bool false]) (by simp [results, Tryz.results85, go_sem]) rfl ?_
    refine ⟨?_, ?_⟩
    · exact (Below.refl _ _).alloc (Nat.le_refl _) _
    · rw [HSP.out]; exact ⟨_, _, _, rfl⟩
  · have hsp : readL (bl s) = match atoiOk ((bl s).drop 4 |>.take 12), atoiOk ((bl s).drop 16 |>.take 8) with
      | some n, some k =>
        if n < 0 ∨ k < 0 ∨ (bl s).length - 34 < k then none
        else if Lib.hasPrefix (bl s) (bytesL n (((bl s).drop 34).take k.toNat)) = true then some (n, ((bl s).drop 34).take k.toNat) else none
      | _, _ => none := by unfold readL; rw [if_neg (by rw [← size_bl]; exact h34)]; rfl
    have e1 : ((bl s).drop 4).take 12 = bl ((s.extract 0 34).extract 4 16) := by
      rw [bl_extract, bl_extract]; simp [List.drop_take, List.take_take]
    have e2 : ((bl s).drop 16).take 8 = bl ((s.extract 0 34).extract 16 24) := by
      rw [bl_extract, bl_extract]; simp [List.drop_take, List.take_take]
    have k0 : ∀ W : World, (Instr.slice 9 (.string s) none (some (.int .i64 34)) none).run Tryz.prog W = .ok (.string (s.extract 0 34)) W := by
      intro W
      have hj : (0 : Int) ≤ 34 ∧ (34 : Int) ≤ (s.size : Int) := ⟨by omega, by omega⟩
      simp [Instr.slice, Instr.sliceBounds, Instr.sliceBound, asIntOf, run_underlying Tryz.underlying9, hj]
    have k1 : ∀ W : World, (Instr.slice 9 (.string (s.extract 0 34)) (some (.int .i64 4)) (some (.int .i64 16)) none).run Tryz.prog W = .ok (.string ((s.extract 0 34).extract 4 16)) W :=
      fun W => run_slice_of_slice (P := Tryz.prog) 9 Tryz.underlying9 s 0 34 4 16 (by omega) (by omega) W
    have k2 : ∀ W : World, (Instr.slice 9 (.string (s.extract 0 34)) (some (.int .i64 16)) (some (.int .i64 24)) none).run Tryz.prog W = .ok (.string ((s.extract 0 34).extract 16 24)) W :=
      fun W => run_slice_of_slice (P := Tryz.prog) 9 Tryz.underlying9 s 0 34 16 24 (by omega) (by omega) W
    have z1 : ((s.extract 0 34).extract 4 16).size ≤ 1000000 := by rw [size_bl, ← e1]; simp; omega
    have z2 : ((s.extract 0 34).extract 16 24).size ≤ 1000000 := by rw [size_bl, ← e2]; simp; omega
    rw [e1, e2] at hsp
    have HSP := Lib.hid hsp
    have Z1 := Lib.hid z1
    have Z2 := Lib.hid z2
    clear hsp e1 e2 z1 z2
    generalize hs1 : (s.extract 0 34).extract 4 16 = s1 at *
    generalize hs2 : (s.extract 0 34).extract 16 24 = s2 at *
    generalize hs0 : s.extract 0 34 = s0 at *
    clear hs1 hs2 hs0
    cases h1 : atoiOk (bl s1) with
    | none =>
      have H1 := Lib.hid h1
      clear h1
      go_enter Tryz.func85, Tryz.ntmps85
      go_wp2_with fail
      refine (atoi_bad _ _ Z1.out (hG.alloc _) H1.out).mono ?_
      rintro e w1 ⟨v, N, rfl, hb1⟩
      have b1 := one_new hb1
      have hb1' := below_one hb1
      have s1 := hb1.size
      simp at s1
      go_wp2_with fail
      refine (atoi_gen _ _ Z2.out (hG.below hb1' hGl)).mono ?_
      rintro e w2 ⟨v2, er, rfl, hb2⟩
      have d0 : w2.cell? ⟨w.heap.size, 0, none⟩ = some (.int .i64 0) := Lib.cell_of_heap ((hb2.block _ (by omega)).trans b1) 0
      have d1 : w2.cell? ⟨w.heap.size, 1, none⟩ = some (.string ⟨#[]⟩) := Lib.cell_of_heap ((hb2.block _ (by omega)).trans b1) 1
      have d2 : w2.cell? ⟨w.heap.size, 2, none⟩ = some (.int .i64 0) := Lib.cell_of_heap ((hb2.block _ (by omega)).trans b1) 2
      have d3 := Lib.frozen_of_heap ((hb2.block _ (by omega)).trans b1)
      have HB2 := Lib.hid (hb1'.trans (hb2.mono (by omega)))
      clear hb1 hb2 hb1' b1
      go_wp2_with fail
      refine bodyPost_ret (v := .tuple #[.agg #[.int .i64 0, .string ⟨#[]⟩, .int .i64 0], .bool false]) (by simp [results, Tryz.results85, go_sem, d0, d1, d2]) rfl ?_
      refine ⟨Below.setCell (Below.setCell (Below.setCell HB2.out (by simp) _) (by simp) _) (by simp) _, ?_⟩
      rw [HSP.out, H1.out]; exact ⟨_, _, _, rfl⟩
    | some n =>
      have H1 := Lib.hid h1
      clear h1
      cases h2 : atoiOk (bl s2) with
      | none =>
        have H2 := Lib.hid h2
        clear h2
        go_enter Tryz.func85, Tryz.ntmps85
        go_wp2_with fail
        refine (atoi_ok _ _ Z1.out n H1.out).mono ?_
        rintro e w1 ⟨rfl, hb1⟩
        have b1 := one_new hb1
        have hb1' := below_one hb1
        have s1 := hb1.size
        simp at s1
        go_wp2_with fail
        refine (atoi_bad _ _ Z2.out (hG.below hb1' hGl) H2.out).mono ?_
        rintro e w2 ⟨v2, N, rfl, hb2⟩
        have d0 : w2.cell? ⟨w.heap.size, 0, none⟩ = some (.int .i64 0) := Lib.cell_of_heap ((hb2.block _ (by omega)).trans b1) 0
        have d1 : w2.cell? ⟨w.heap.size, 1, none⟩ = some (.string ⟨#[]⟩) := Lib.cell_of_heap ((hb2.block _ (by omega)).trans b1) 1
        have d2 : w2.cell? ⟨w.heap.size, 2, none⟩ = some (.int .i64 0) := Lib.cell_of_heap ((hb2.block _ (by omega)).trans b1) 2
        have d3 := Lib.frozen_of_heap ((hb2.block _ (by omega)).trans b1)
        have HB2 := Lib.hid (hb1'.trans (hb2.mono (by omega)))
        clear hb1 hb2 hb1' b1
        go_wp2_with fail
        refine bodyPost_ret (v := .tuple #[.agg #[.int .i64 0, .string ⟨#[]⟩, .int .i64 0], .bool false]) (by simp [results, Tryz.results85, go_sem, d0, d1, d2]) rfl ?_
        refine ⟨Below.setCell (Below.setCell (Below.setCell HB2.out (by simp) _) (by simp) _) (by simp) _, ?_⟩
        rw [HSP.out, H1.out, H2.out]; exact ⟨_, _, _, rfl⟩
      | some k =>
        have H2 := Lib.hid h2
        have hn := atoiOk_bound H1.out
        have hk := atoiOk_bound h2
        clear h2
        by_cases hbad : n < 0 ∨ k < 0 ∨ (s.size : Int) - 34 < k
        · have HBAD := Lib.hid hbad
          clear hbad
          go_enter Tryz.func85, Tryz.ntmps85
          go_wp2_with fail
          refine (atoi_ok _ _ Z1.out n H1.out).mono ?_
          rintro e w1 ⟨rfl, hb1⟩
          have b1 := one_new hb1
          have hb1' := below_one hb1
          have s1 := hb1.size
          simp at s1
          go_wp2_with fail
          refine (atoi_ok _ _ Z2.out k H2.out).mono ?_
          rintro e w2 ⟨rfl, hb2⟩
          have d0 : w2.cell? ⟨w.heap.size, 0, none⟩ = some (.int .i64 0) := Lib.cell_of_heap ((hb2.block _ (by omega)).trans b1) 0
          have d1 : w2.cell? ⟨w.heap.size, 1, none⟩ = some (.string ⟨#[]⟩) := Lib.cell_of_heap ((hb2.block _ (by omega)).trans b1) 1
          have d2 : w2.cell? ⟨w.heap.size, 2, none⟩ = some (.int .i64 0) := Lib.cell_of_heap ((hb2.block _ (by omega)).trans b1) 2
          have d3 := Lib.frozen_of_heap ((hb2.block _ (by omega)).trans b1)
          have HB2 := Lib.hid (hb1'.trans (hb2.mono (by omega)))
          clear hb1 hb2 hb1' b1
          have hbad := HBAD.out
          by_cases n0 : n < 0
          all_goals try (by_cases k0 : k < 0)
          all_goals try (have k1 : (s.size : Int) - 34 < k := by omega)
          all_goals clear hbad
          all_goals
            go_wp2_with fail
            refine bodyPost_ret (v := .tuple #[.agg #[.int .i64 0, .string ⟨#[]⟩, .int .i64 0], .bool false]) (by simp [results, Tryz.results85, go_sem, d0, d1, d2]) rfl ?_
            refine ⟨Below.setCell (Below.setCell (Below.setCell HB2.out (by simp) _) (by simp) _) (by simp) _, ?_⟩
            rw [HSP.out, H1.out, H2.out]
            simp only
            rw [if_pos (by rw [← size_bl]; exact HBAD.out)]
            exact ⟨_, _, _, rfl⟩
        · have n0 : 0 ≤ n := by omega
          have k0' : 0 ≤ k := by omega
          obtain ⟨kN, rfl⟩ := Int.eq_ofNat_of_zero_le k0'
          have hkN : kN + 34 ≤ s.size := by omega
          have HBAD := Lib.hid hbad
          clear hbad k0' hk
          obtain ⟨tx, htx⟩ : ∃ tx, tx = s.extract 34 (34 + kN) := ⟨_, rfl⟩
          have HTX : Hid (bl tx = ((bl s).drop 34).take kN) := by simp only [Hid]; rw [htx, bl_extract]; congr 1; omega
          have k3 : ∀ W : World, (Instr.slice 9 (.string s) (some (.int .i64 34)) (some (.int .i64 (34 + (kN : Int)))) none).run Tryz.prog W = .ok (.string tx) W := by
            intro W
            rw [run_slice_string W 9 s .i64 .i64 34 (34 + (kN : Int)) Tryz.underlying9 (by omega) (by omega) (by omega), htx]
            rfl
          have htz : tx.size ≤ 6000000 := by rw [size_bl, HTX.out]; simp; omega
          clear htx
          go_enter Tryz.func85, Tryz.ntmps85
          go_wp2_with fail
          refine (atoi_ok _ _ Z1.out n H1.out).mono ?_
          rintro e w1 ⟨rfl, hb1⟩
          have b1 := one_new hb1
          have hb1' := below_one hb1
          have s1 := hb1.size
          simp at s1
          go_wp2_with fail
          refine (atoi_ok _ _ Z2.out kN H2.out).mono ?_
          rintro e w2 ⟨rfl, hb2⟩
          have B2 := Lib.hid ((hb2.block _ (by omega)).trans b1)
          have HB2 := Lib.hid (hb1'.trans (hb2.mono (by omega)))
          have s2 := hb2.size
          clear hb1 hb2 hb1' b1
          go_wp2_with fail
          refine (bytes_any n 0 tx _ (by omega) (by omega) (by omega) ((hG.below HB2.out hGl).alloc _)).mono ?_
          rintro e w3 ⟨y, rfl, hy, HY, hb3⟩
          have b3 := one_new hb3
          have B3 := Lib.hid (blk_keep B2.out hb3 (by omega))
          have HB3 := Lib.hid (below_at HB2.out (by omega) hb3)
          have s3 := hb3.size
          simp at s3
          have x0 : w3.cell? ⟨w2.heap.size, 0, none⟩ = some (.int .i64 n) := Lib.cell_of_heap b3 0
          have x1 : w3.cell? ⟨w2.heap.size, 1, none⟩ = some (.string tx) := Lib.cell_of_heap b3 1
          have x2 : w3.cell? ⟨w2.heap.size, 2, none⟩ = some (.int .i64 0) := Lib.cell_of_heap b3 2
          have x3 := Lib.frozen_of_heap b3
          have d0 : w3.cell? ⟨w.heap.size, 0, none⟩ = some (.int .i64 0) := Lib.cell_of_heap B3.out 0
          have d1 : w3.cell? ⟨w.heap.size, 1, none⟩ = some (.string ⟨#[]⟩) := Lib.cell_of_heap B3.out 1
          have d2 : w3.cell? ⟨w.heap.size, 2, none⟩ = some (.int .i64 0) := Lib.cell_of_heap B3.out 2
          have d3 := Lib.frozen_of_heap B3.out
          have hne : w.heap.size ≠ w2.heap.size := by omega
          have hne' : w2.heap.size ≠ w.heap.size := by omega
          clear hb3 b3
          go_wp2_with fail
          go_region_with (go_at_call 47; refine (Tryz.strings_HasPrefix _ _ _).mono ?_; rintro e w4 ⟨rfl, rfl⟩)
          all_goals
            go_wp2_with fail
            refine bodyPost_ret (v := .tuple #[.agg #[.int .i64 n, .string tx, .int .i64 y.size], .bool (Lib.hasPrefix s.data.toList y.data.toList)]) (by simp [results, Tryz.results85, go_sem, d0, d1, d2, x0, x1, x2, hne, hne']) rfl ?_
            refine ⟨?_, read_close HSP.out H1.out H2.out HBAD.out HTX.out HY.out⟩
            repeat (first | exact HB3.out | refine Below.drew ?_ | refine Below.setCell ?_ (by first | (simp; done) | (simp; omega)) _)
theorem read_none (s : ByteArray) (w : World) (hs : s.size ≤ 6000000) (hG : G w) (h : readL (bl s) = none) :
    Calls Tryz.prog 85 #[.string s] w fun e w' => ∃ (n k : Int) (t : ByteArray), e = .returned (.tuple #[.agg #[.int .i64 n, .string t, .int .i64 k], .bool false]) ∧ Below w.heap.size w w' := by
  refine (read_any s w hs hG).mono ?_
  rintro e w' ⟨hb, h2⟩
  rw [h] at h2
  obtain ⟨n, k, t, rfl⟩ := h2
  exact ⟨n, k, t, rfl, hb⟩

theorem read_some (s : ByteArray) (w : World) (hs : s.size ≤ 6000000) (hG : G w) {n : Int} {t : List UInt8} (h : readL (bl s) = some (n, t)) :
    Calls Tryz.prog 85 #[.string s] w fun e w' => e = .returned (.tuple #[.agg #[.int .i64 n, .string (mkB t), .int .i64 ((bytesL n t).length : Int)], .bool true]) ∧ Below w.heap.size w w' := by
  refine (read_any s w hs hG).mono ?_
  rintro e w' ⟨hb, h2⟩
  rw [h] at h2
  exact ⟨h2, hb⟩
end Go.Proofs.YtinkdjeanjhkbaaGreatDoor
