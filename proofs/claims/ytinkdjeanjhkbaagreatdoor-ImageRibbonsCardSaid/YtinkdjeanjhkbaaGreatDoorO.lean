/-
  The walk of image.Format.
-/
import Derived.Test.YtinkdjeanjhkbaaGreatDoorN
namespace Go.Proofs.YtinkdjeanjhkbaaGreatDoor
open Go.RowKit
attribute [local go_sem] size_mkB

def formatR (r : Rib) : Int ⊕ List RAct := if r.valid ∧ r.acts.length = 0 then .inr [keepAct 0 0, fastAct, addAct (mkB (bytesL 0 [])), fastAct] else .inl 260

set_option maxHeartbeats 1600000 in
set_option maxRecDepth 100000 in
theorem format_any (r : Rib) (v : Value) (w : World) (hv : ActsIn w.heap.size w v r.acts) (hG : G w) :
    Calls Tryz.prog 41 #[.agg #[.int .i64 r.room, .string r.fast, v]] w (PutOut w (formatR r)) := by
  have HV := Lib.hid hv
  have h5 := hG.low
  obtain ⟨A, cap, rfl, -, -, -⟩ := hv
  have hB0 : Below w.heap.size w (w.alloc (Obj.cells #[Value.int IntKind.i64 r.room, Value.string r.fast, .slice A r.acts.length cap] 24)) := (Below.refl _ _).alloc (Nat.le_refl _) _
  have HV0 := Lib.hid ((HV.out.below hB0).mono (B' := (w.alloc (Obj.cells #[Value.int IntKind.i64 r.room, Value.string r.fast, .slice A r.acts.length cap] 24)).heap.size) (by simp))
  clear hB0
  by_cases hval : r.valid
  · have hchk : checkR r.room r.fast r.acts = 0 := hval
    have HVAL := Lib.hid hval
    clear hval
    go_enter Tryz.func41, Tryz.ntmps41
    go_wp2_with fail
    refine (check_any r.room r.fast _ r.acts _ HV0.out).mono ?_
    rintro e w1 ⟨rfl, hb1⟩
    rw [hchk]
    have BX := Lib.hid (one_new hb1)
    have HB1 := Lib.hid (below_one hb1)
    have hz1 : w.heap.size < w1.heap.size := by have := hb1.size; simp at this; omega
    have G1 := Lib.hid (hG.below HB1.out h5)
    clear hb1
    have e2 : w1.cell? ⟨w.heap.size, 2, none⟩ = some (.slice A r.acts.length cap) := Lib.cell_of_heap BX.out 2
    by_cases hn : r.acts.length = 0
    · have HFR : Hid (formatR r = .inr [keepAct 0 0, fastAct, addAct (mkB (bytesL 0 [])), fastAct]) := by simp only [Hid]; unfold formatR; rw [if_pos ⟨HVAL.out, hn⟩]
      rw [hn] at e2
      clear hn
      go_wp2_with fail
      refine (keep_any _ _ _).mono ?_
      rintro e w2 ⟨A2, c2, rfl, HO2, hb2⟩
      have HB2 := Lib.hid (HB1.out.trans (hb2.mono (by omega)))
      have hz2 : w1.heap.size ≤ w2.heap.size := hb2.size
      have G2 := Lib.hid (G1.out.below hb2 (by have := G1.out.low; omega))
      clear hb2
      go_wp2_with fail
      refine (bytes_any 0 0 ⟨#[]⟩ _ (by decide) (by decide) (by decide) G2.out).mono ?_
      rintro e w3 ⟨z, rfl, hzz, HZ, hb3⟩
      have HO3 := Lib.hid (own_below HO2.out hb3)
      have HB3 := Lib.hid (HB2.out.trans (hb3.mono (by omega)))
      have hz3 : w2.heap.size ≤ w3.heap.size := hb3.size
      clear hb3
      have hzE : z = mkB (bytesL 0 []) := bl_inj (by rw [HZ.out, bl_mk]; rfl)
      have HZE := Lib.hid hzE
      clear hzE
      go_wp2_with fail
      refine (add_any z _).mono ?_
      rintro e w4 ⟨rfl, hb4⟩
      have HO4 := Lib.hid (own_below HO3.out hb4)
      have HB4 := Lib.hid (HB3.out.trans (hb4.mono (by omega)))
      have hz4 : w3.heap.size ≤ w4.heap.size := hb4.size
      clear hb4
      obtain ⟨i0, hi0, hz0, hz1', hz2'⟩ := info_parts infoAct
      go_wp2_with (at_builtin; refine wpList_append_own _ rfl _ _ 22 rfl w1.heap.size 41 i0 _ 4 40 Tryz.underlying22 hi0 hz0 hz1' hz2' rfl (by decide) _ _ _ rfl (HO4.out.alloc _) ⟨w4.heap.size, 0, none⟩ 2 2 (actCells [addAct z, fastAct]) rfl ?c1 ?c2 ?c3 ?c4 ?c5 ?c6 ?_)
      case c1 => rfl
      case c2 => exact fun j u hu => by rw [addr_add, Nat.zero_add, World.cell?_alloc_new]; simpa [actCells, RAct.vals, addAct, fastAct] using hu
      case c3 => exact actCells_one _
      case c4 => simp [maxLen]
      case c5 => simp
      case c6 => simp; omega
      intro v5 w5 hown5 hgr5 _
      obtain ⟨A5, c5, rfl⟩ := own_form hown5
      have hlt5 := HO4.out.lt
      go_wp2_with fail
      refine bodyPost_ret (v := .tuple #[.slice A5 _ c5, .int .i64 0]) (by simp [results, Tryz.results41, go_sem]; rfl) rfl ?_
      refine ⟨(HB4.out.alloc (by omega) _).grown hgr5 (by simp; omega) (fun b hb => by have := (hlt5 b hb).1; omega), ?_⟩
      rw [HFR.out]
      refine ⟨A5, c5, rfl, ?_⟩
      rw [← HZE.out]
      exact OwnActs.mono' hown5 (by omega)
    · have HFR : Hid (formatR r = .inl 260) := by simp only [Hid]; unfold formatR; rw [if_neg (fun h => hn h.2)]
      have hn' : (0 : Int) < r.acts.length := by omega
      clear hn
      go_wp2_with fail
      refine bodyPost_ret (v := .tuple #[.slice none 0 0, .int .i64 260]) (by simp [results, Tryz.results41, go_sem]) rfl ?_
      exact ⟨HB1.out, by rw [HFR.out]⟩
  · have hchk := chk_bad hval
    have HFR : Hid (formatR r = .inl 260) := by simp only [Hid]; unfold formatR; rw [if_neg (fun h => hval h.1)]
    clear hval
    go_enter Tryz.func41, Tryz.ntmps41
    go_wp2_with fail
    refine (check_any r.room r.fast _ r.acts _ HV0.out).mono ?_
    rintro e w1 ⟨rfl, hb1⟩
    rw [hchk]
    have HB1 := Lib.hid (below_one hb1)
    clear hb1
    go_wp2_with fail
    refine bodyPost_ret (v := .tuple #[.slice none 0 0, .int .i64 260]) (by simp [results, Tryz.results41, go_sem]) rfl ?_
    exact ⟨HB1.out, by rw [HFR.out]⟩
end Go.Proofs.YtinkdjeanjhkbaaGreatDoor
