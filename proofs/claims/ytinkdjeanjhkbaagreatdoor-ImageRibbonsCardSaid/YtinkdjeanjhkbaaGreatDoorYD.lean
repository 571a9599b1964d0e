/-
  The walk of the reference's Hurt.
-/
import Derived.Test.YtinkdjeanjhkbaaGreatDoorYC
import Derived.Test.YtinkdjeanjhkbaaGreatDoorQ
namespace Go.Proofs.YtinkdjeanjhkbaaGreatDoor
open Go.RowKit
attribute [local go_sem] size_mkB

theorem own_put {w : World} {base e n g : Nat} {v : Value} {xs : List Value} (h : w.ownsRow base e 1 v n xs) (hg : v.ownBlock = some g) (j : Nat) (u : Value) : (w.setCell ⟨g, j, none⟩ u).ownsRow base e 1 v n (xs.set j u) := by
  refine ⟨by rw [List.length_set]; exact h.1, ?_⟩
  rcases h.2 with ⟨rfl, _⟩ | ⟨g', cap, cur, rfl, hb, hh, hc, hm, hs, ht⟩
  · cases hg
  · obtain rfl : g' = g := Option.some.inj hg
    refine Or.inr ⟨g', cap, cur.setIfInBounds j u, rfl, hb, heap_setCell_at hh j u, hc, hm, by simpa using hs, ?_⟩
    rw [← ht, Array.toList_setIfInBounds, List.take_set]

theorem own_cell {w : World} {base e n g : Nat} {v : Value} {xs : List Value} (h : w.ownsRow base e 1 v n xs) (hg : v.ownBlock = some g) (j : Nat) (u : Value) (hu : xs[j]? = some u) : w.cell? ⟨g, j, none⟩ = some u := by
  have := h.cells hg j u hu
  rw [addr_add, Nat.zero_add] at this
  exact this

theorem hurt_set (l : List UInt8) (k : Nat) (b : UInt8) (hk : k < l.length) : hurtL l k b = l.set k (l[k] ^^^ b) := by
  unfold hurtL
  rw [List.set_eq_take_append_cons_drop, if_pos hk]
  simp [hk]
theorem vals_set (l : List UInt8) (k : Nat) (c : UInt8) : (byteVals l).set k (.int .u8 c.toNat) = byteVals (l.set k c) := by
  simp [byteVals, List.map_set]

theorem xor_val (a b : UInt8) : bits .xor .u8 (a.toNat : Int) (b.toNat : Int) = ((a ^^^ b).toNat : Int) := by
  have ha := a.toNat_lt
  have hb := b.toNat_lt
  have hx : a.toNat ^^^ b.toNat < 2 ^ 8 := Nat.xor_lt_two_pow (by omega) (by omega)
  have hw : ∀ n : Int, IntKind.u8.wrap n = n % 256 := fun n => by simp [IntKind.wrap, IntKind.bits, IntKind.signed]
  have h1 : (BitVec.ofInt 8 (a.toNat : Int)).toNat = a.toNat := by
    rw [BitVec.ofInt_natCast, BitVec.toNat_ofNat]; exact Nat.mod_eq_of_lt (by omega)
  have h2 : (BitVec.ofInt 8 (b.toNat : Int)).toNat = b.toNat := by
    rw [BitVec.ofInt_natCast, BitVec.toNat_ofNat]; exact Nat.mod_eq_of_lt (by omega)
  show IntKind.u8.wrap ((BitVec.ofInt 8 (a.toNat : Int) ^^^ BitVec.ofInt 8 (b.toNat : Int)).toNat : Int) = _
  rw [BitVec.toNat_xor, h1, h2, hw, UInt8.toNat_xor]
  omega

set_option maxHeartbeats 1600000 in
set_option maxRecDepth 100000 in
theorem rhurt_any (r : Rib) (v : Value) (at_ : Int) (b : UInt8) (w : World) (hv : ActsIn w.heap.size w v r.acts) (ha : -9223372036854775808 ≤ at_ ∧ at_ ≤ 9223372036854775807) :
    Calls Tryz.prog 10 #[.agg #[.int .i64 r.room, .string r.fast, v], .int .i64 at_, .int .u8 b.toNat] w (RibOut (if r.valid then 1 else 260) (hurtR r at_ b) w) := by
  obtain ⟨i0, hi0, hy0, hy1, hy2⟩ := info_parts infoByte
  obtain ⟨E, hE⟩ : ∃ E : Int, E = if r.valid then 1 else 260 := ⟨_, rfl⟩
  rw [← hE]
  have HE := Lib.hid hE
  clear hE
  have HV := Lib.hid hv
  obtain ⟨A, cap, rfl, -, -, -⟩ := hv
  have hB0 : Below w.heap.size w ((w.alloc (Obj.cells #[Value.int IntKind.i64 r.room, Value.string r.fast, .slice A r.acts.length cap] 24)).alloc (Obj.cells #[Value.int IntKind.i64 0, Value.string { data := #[] }, Value.slice none 0 0] 24)) := ((Below.refl _ _).alloc (Nat.le_refl _) _).alloc (by simp) _
  have HV0 := Lib.hid ((HV.out.below hB0).mono (B' := ((w.alloc (Obj.cells #[Value.int IntKind.i64 r.room, Value.string r.fast, .slice A r.acts.length cap] 24)).alloc (Obj.cells #[Value.int IntKind.i64 0, Value.string { data := #[] }, Value.slice none 0 0] 24)).heap.size) (by simp; omega))
  clear hB0
  by_cases hval : r.valid
  · have hchk : decide (checkR r.room r.fast r.acts = 0) = true := decide_eq_true hval
    have HVAL := Lib.hid hval
    have HCHK := Lib.hid hchk
    clear hval hchk
    go_enter Tryz.func10, Tryz.ntmps10
    go_wp2_with fail
    refine (right_any r.room r.fast _ r.acts _ HV0.out).mono ?_
    rintro e w1 ⟨rfl, hb1⟩
    rw [HCHK.out]
    obtain ⟨bx, rs, hb, hz1⟩ := two_new hb1
    have BX := Lib.hid bx
    have RS := Lib.hid rs
    have HB1 := Lib.hid hb
    clear hb1 bx rs hb
    have hz0 : w.heap.size < w1.heap.size := by omega
    have e0 : w1.cell? ⟨w.heap.size, 0, none⟩ = some (.int .i64 r.room) := Lib.cell_of_heap BX.out 0
    have e1 : w1.cell? ⟨w.heap.size, 1, none⟩ = some (.string r.fast) := Lib.cell_of_heap BX.out 1
    have e2 : w1.cell? ⟨w.heap.size, 2, none⟩ = some (.slice A r.acts.length cap) := Lib.cell_of_heap BX.out 2
    have e3 := Lib.frozen_of_heap BX.out
    have g0 : w1.cell? ⟨w.heap.size + 1, 0, none⟩ = some (.int .i64 0) := Lib.cell_of_heap RS.out 0
    have g1 : w1.cell? ⟨w.heap.size + 1, 1, none⟩ = some (.string ⟨#[]⟩) := Lib.cell_of_heap RS.out 1
    have g2 : w1.cell? ⟨w.heap.size + 1, 2, none⟩ = some (.slice none 0 0) := Lib.cell_of_heap RS.out 2
    have g3 := Lib.frozen_of_heap RS.out
    by_cases hat : 0 ≤ at_ ∧ at_ < r.fast.size
    · obtain ⟨hat0, hat1⟩ := hat
      obtain ⟨k, rfl⟩ := Int.eq_ofNat_of_zero_le hat0
      have hk : k < r.fast.size := by omega
      have hfz := valid_fast HVAL.out
      clear hat0 hat1
      go_wp2_with (at_builtin; refine Lib.wpList_append_own_string _ rfl (.tmp 23) (.tmp 25) 54 9 rfl w1.heap.size 5 i0 Tryz.underlying54 Tryz.underlying9 hi0 hy0 hy1 hy2 (.slice (some ⟨w1.heap.size, 0, none⟩) 0 0) 0 [] rfl (World.ownsRow_lit w1 #[] 0 (Nat.le_refl _) (by decide) rfl) _ rfl (by unfold maxLen; omega) (by have := hfz; omega) (by simp) ?_; intro v2 w2 hown2 hgr2 hne2; clear hne2; rw [Nat.zero_add, List.nil_append, strCells_vals] at hown2)
      obtain ⟨A2, c2, rfl⟩ := own_form hown2
      have hb2 : Below w1.heap.size w1 w2 := ((Below.refl _ w1).alloc (Nat.le_refl _) _).grown hgr2 (by simp) (fun g h => by simp [Value.ownBlock] at h; omega)
      obtain ⟨g, rfl, hgl, hgz⟩ : ∃ g, A2 = some ⟨g, 0, none⟩ ∧ w1.heap.size ≤ g ∧ g < w2.heap.size := by
        rcases hown2.2 with ⟨h, h0⟩ | ⟨g, cap', cur, h, hg, hh, _⟩
        · omega
        · injection h with h1 _ _
          exact ⟨g, h1, hg, (Array.getElem?_eq_some_iff.1 hh).1⟩
      have hkl : k < (bl r.fast).length := by rw [← size_bl]; exact hk
      have hcell : w2.cell? ⟨g, k, none⟩ = some (.int .u8 ((bl r.fast)[k]).toNat) := own_cell hown2 rfl k _ (by simp [byteVals, hkl])
      have hfr : w2.frozen? ⟨g, k, none⟩ = false := by
        rcases hown2.2 with ⟨h, h0⟩ | ⟨g', cap', cur, h, hg, hh, _⟩
        · cases h
        · injection h with h1 _ _
          obtain rfl : g = g' := by injection h1 with h1; injection h1
          exact Lib.frozen_of_heap hh _
      have hput : (w2.setCell ⟨g, k, none⟩ (.int .u8 (bits .xor .u8 ((bl r.fast)[k]).toNat b.toNat))).ownsRow w1.heap.size 5 1 (.slice (some ⟨g, 0, none⟩) r.fast.size c2) r.fast.size (byteVals (hurtL (bl r.fast) k b)) := by
        have h := own_put hown2 rfl k (.int .u8 ((bl r.fast)[k] ^^^ b).toNat)
        rw [vals_set, ← hurt_set _ _ _ hkl] at h
        rw [xor_val]
        exact h
      have HPUT := Lib.hid hput
      have B2 := Lib.hid ((hb2.block _ hz0).trans BX.out)
      have R2 := Lib.hid ((hb2.block _ hz1).trans RS.out)
      have HB2 := Lib.hid (HB1.out.trans (hb2.mono (by omega)))
      have hbl : (bl r.fast)[k] = r.fast[k] := rfl
      clear hown2 hgr2 hput e0 e1 e2 e3 g0 g1 g2 g3 hbl
      have e0 : w2.cell? ⟨w.heap.size, 0, none⟩ = some (.int .i64 r.room) := Lib.cell_of_heap B2.out 0
      have e1 : w2.cell? ⟨w.heap.size, 1, none⟩ = some (.string r.fast) := Lib.cell_of_heap B2.out 1
      have e2 : w2.cell? ⟨w.heap.size, 2, none⟩ = some (.slice A r.acts.length cap) := Lib.cell_of_heap B2.out 2
      have e3 := Lib.frozen_of_heap B2.out
      have g0 : w2.cell? ⟨w.heap.size + 1, 0, none⟩ = some (.int .i64 0) := Lib.cell_of_heap R2.out 0
      have g1 : w2.cell? ⟨w.heap.size + 1, 1, none⟩ = some (.string ⟨#[]⟩) := Lib.cell_of_heap R2.out 1
      have g2 : w2.cell? ⟨w.heap.size + 1, 2, none⟩ = some (.slice none 0 0) := Lib.cell_of_heap R2.out 2
      have g3 := Lib.frozen_of_heap R2.out
      have hkk : (k : Int) < (r.fast.size : Int) := by omega
      generalize (bl r.fast)[k] = x at hcell HPUT
      have hz2 : w.heap.size < w2.heap.size := by have := hb2.size; omega
      have hz2' : w.heap.size + 1 < w2.heap.size := by have := hb2.size; omega
      go_wp2_with fail
      go_simp
      go_wp2_with fail
      rw [conv_own HPUT.out]
      go_wp2_with fail
      have hg1 : w.heap.size + 1 ≠ g := by omega
      have R5 : (((w2.setCell ⟨g, k, none⟩ (.int .u8 (bits .xor .u8 x.toNat b.toNat))).setCell ⟨w.heap.size, 1, none⟩ (.string (mkB (hurtL (bl r.fast) k b)))).heap)[w.heap.size + 1]? = some (.cells #[.int .i64 0, .string ⟨#[]⟩, .slice none 0 0] 24 (0, 0)) := by
        rw [Below.heap_setCell _ _ _ _ (by simp), Below.heap_setCell _ _ _ _ hg1]; exact R2.out
      obtain ⟨q0, q1, q2⟩ := set3_cells R5 (.int .i64 r.room) (.string (mkB (hurtL (bl r.fast) k b))) (.slice A r.acts.length cap)
      have hbf := ((((HB2.out.setCell (p := ⟨g, k, none⟩) (by show _ ≤ g; omega) (.int .u8 (bits .xor .u8 x.toNat b.toNat))).setCell (p := ⟨w.heap.size, 1, none⟩) (Nat.le_refl _) (.string (mkB (hurtL (bl r.fast) k b)))).setCell (p := ⟨w.heap.size + 1, 0, none⟩) (by simp) (.int .i64 r.room)).setCell (p := ⟨w.heap.size + 1, 1, none⟩) (by simp) (.string (mkB (hurtL (bl r.fast) k b)))).setCell (p := ⟨w.heap.size + 1, 2, none⟩) (by simp) (.slice A r.acts.length cap)
      refine bodyPost_ret (v := .tuple #[.agg #[.int .i64 r.room, .string (mkB (hurtL (bl r.fast) k b)), .slice A r.acts.length cap], .int .i64 0]) (by simp [results, Tryz.results10, go_sem, q0, q1, q2]) rfl ?_
      refine ⟨A, cap, ?_, hbf⟩
      rw [hurtR, if_pos ⟨HVAL.out, by omega, by omega⟩]
      exact ⟨(HV.out.below hbf).mono hbf.size, rfl⟩
    · have HSP : Hid (hurtR r at_ b = none) := by simp only [Hid]; rw [hurtR, if_neg (fun h => hat h.2)]
      have hv1 : Hid (E = 1) := by simp only [Hid]; rw [HE.out, if_pos HVAL.out]
      by_cases hat0 : at_ < 0
      · go_wp2_with fail
        refine bodyPost_ret (v := .tuple #[.agg #[.int .i64 0, .string ⟨#[]⟩, .slice none 0 0], .int .i64 1]) (by simp [results, Tryz.results10, go_sem, g0, g1, g2]) rfl ?_
        refine ⟨none, 0, by rw [HSP.out, hv1.out], ?_⟩
        exact Below.setCell (Below.setCell (Below.setCell HB1.out (by simp) _) (by simp) _) (by simp) _
      · have hat1 : (r.fast.size : Int) ≤ at_ := by omega
        clear hat
        go_wp2_with fail
        refine bodyPost_ret (v := .tuple #[.agg #[.int .i64 0, .string ⟨#[]⟩, .slice none 0 0], .int .i64 1]) (by simp [results, Tryz.results10, go_sem, g0, g1, g2]) rfl ?_
        refine ⟨none, 0, by rw [HSP.out, hv1.out], ?_⟩
        exact Below.setCell (Below.setCell (Below.setCell HB1.out (by simp) _) (by simp) _) (by simp) _
  · have hchk : decide (checkR r.room r.fast r.acts = 0) = false := decide_eq_false hval
    have HCHK := Lib.hid hchk
    have HSP : Hid (hurtR r at_ b = none) := by simp only [Hid]; rw [hurtR, if_neg (fun h => hval h.1)]
    have hv1 : Hid (E = 260) := by simp only [Hid]; rw [HE.out, if_neg hval]
    clear hval hchk
    go_enter Tryz.func10, Tryz.ntmps10
    go_wp2_with fail
    refine (right_any r.room r.fast _ r.acts _ HV0.out).mono ?_
    rintro e w1 ⟨rfl, hb1⟩
    rw [HCHK.out]
    obtain ⟨bx, rs, hb, hz1⟩ := two_new hb1
    have RS := Lib.hid rs
    have HB1 := Lib.hid hb
    clear hb1 bx rs hb
    have g0 : w1.cell? ⟨w.heap.size + 1, 0, none⟩ = some (.int .i64 0) := Lib.cell_of_heap RS.out 0
    have g1 : w1.cell? ⟨w.heap.size + 1, 1, none⟩ = some (.string ⟨#[]⟩) := Lib.cell_of_heap RS.out 1
    have g2 : w1.cell? ⟨w.heap.size + 1, 2, none⟩ = some (.slice none 0 0) := Lib.cell_of_heap RS.out 2
    have g3 := Lib.frozen_of_heap RS.out
    go_wp2_with fail
    refine bodyPost_ret (v := .tuple #[.agg #[.int .i64 0, .string ⟨#[]⟩, .slice none 0 0], .int .i64 260]) (by simp [results, Tryz.results10, go_sem, g0, g1, g2]) rfl ?_
    refine ⟨none, 0, by rw [HSP.out, hv1.out], ?_⟩
    exact Below.setCell (Below.setCell (Below.setCell HB1.out (by simp) _) (by simp) _) (by simp) _
end Go.Proofs.YtinkdjeanjhkbaaGreatDoor
