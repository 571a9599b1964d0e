/-
  The walk of image.put.
-/
import Derived.Test.YtinkdjeanjhkbaaGreatDoorL
namespace Go.Proofs.YtinkdjeanjhkbaaGreatDoor
open Go.RowKit
attribute [local go_sem] size_mkB

def putR (room : Int) (fast text : List UInt8) : Int ⊕ List RAct :=
  if fast.length < 45 then .inl 261 else match heldR fast with
  | none => .inl 262
  | some (p, k) =>
    if room < (plen p : Int) + ((bytesL (wrap64 (p.1 + 1)) text).length : Int) then .inl 263
    else .inr ((if plen p < fast.length then [keepAct k (k + plen p), fastAct] else []) ++ [addAct (mkB (bytesL (wrap64 (p.1 + 1)) text)), fastAct, keepAct (plen p) (plen p + (bytesL (wrap64 (p.1 + 1)) text).length), fastAct])

def PutOut (w : World) (o : Int ⊕ List RAct) (e : Ending) (w' : World) : Prop :=
  Below w.heap.size w w' ∧ match o with
    | .inl er => e = .returned (.tuple #[.slice none 0 0, .int .i64 er])
    | .inr l => ∃ A cap, e = .returned (.tuple #[.slice A l.length cap, .int .i64 0]) ∧ Hid (OwnActs w.heap.size w' (.slice A l.length cap) l)

theorem heldR_bound {s : List UInt8} {p : Int × List UInt8} {k : Nat} (hs : s.length ≤ 6000000) (h : heldR s = some (p, k)) :
    ((-9223372036854775808 ≤ p.1 ∧ p.1 ≤ 9223372036854775807) ∧ p.2.length ≤ 6000000) ∧ 1 ≤ plen p ∧ k + plen p ≤ s.length := by
  unfold heldR at h
  split at h
  · cases h
  · rename_i q hq
    have h1 := readL_rec hs hq
    split at h
    · injection h with h
      injection h with h2 h3
      subst h2; subst h3
      exact ⟨h1.1, h1.2.2, by have := h1.2.1; unfold plen; omega⟩
    · rename_i q2 hq2
      have h2 := readL_rec (by simp; omega) hq2
      split at h
      · rename_i hc
        injection h with h
        injection h with h3 h4
        subst h3; subst h4
        exact ⟨h2.1, h2.2.2, by omega⟩
      · injection h with h
        injection h with h3 h4
        subst h3; subst h4
        exact ⟨h1.1, h1.2.2, by have := h1.2.1; unfold plen; omega⟩

set_option maxHeartbeats 3200000 in
set_option maxRecDepth 100000 in
theorem put_any (room : Int) (fast text : ByteArray) (A : Option Addr) (n cap : Nat) (w : World) (hz : fast.size ≤ 6000000) (ht : text.size ≤ 100000000) (hG : G w) :
    Calls Tryz.prog 64 #[.agg #[.int .i64 room, .string fast, .slice A n cap], .string text] w (PutOut w (if n = 0 then putR room (bl fast) (bl text) else .inl 260)) := by
  have h5 := hG.low
  by_cases hn : n = 0
  · subst hn
    rw [if_pos rfl]
    go_enter Tryz.func64, Tryz.ntmps64
    go_wp2_with fail
    have hB0 : Below w.heap.size w (w.alloc (Obj.cells #[Value.int IntKind.i64 room, Value.string fast, Value.slice A 0 cap] 24)) := (Below.refl _ _).alloc (Nat.le_refl _) _
    refine (held_any room fast A 0 cap _ hz (hG.below hB0 h5)).mono ?_
    rintro e w1 ⟨hb1, he⟩
    have BX := Lib.hid (one_new hb1)
    have HB1 := Lib.hid (below_one hb1)
    have hz1 : w.heap.size < w1.heap.size := by have := hb1.size; simp at this; omega
    have G1 := Lib.hid (hG.below HB1.out h5)
    clear hb1 hB0
    have e0 : w1.cell? ⟨w.heap.size, 0, none⟩ = some (.int .i64 room) := Lib.cell_of_heap BX.out 0
    have e1 : w1.cell? ⟨w.heap.size, 1, none⟩ = some (.string fast) := Lib.cell_of_heap BX.out 1
    have hpr : putR room (bl fast) (bl text) = putR room (bl fast) (bl text) := rfl
    conv at hpr => rhs; unfold putR
    by_cases h45 : (bl fast).length < 45
    · rw [if_pos h45] at he hpr
      subst he
      have HPR := Lib.hid hpr
      clear hpr h45
      go_wp2_with fail
      refine bodyPost_ret (v := .tuple #[.slice none 0 0, .int .i64 261]) (by simp [results, Tryz.results64, go_sem]) rfl ?_
      exact ⟨HB1.out.alloc (by omega) _, by rw [HPR.out]⟩
    · rw [if_neg h45] at he hpr
      cases hh : heldR (bl fast) with
      | none =>
        rw [hh] at he hpr
        simp only at he hpr
        subst he
        have HPR := Lib.hid hpr
        clear hpr h45 hh
        go_wp2_with fail
        refine bodyPost_ret (v := .tuple #[.slice none 0 0, .int .i64 262]) (by simp [results, Tryz.results64, go_sem]) rfl ?_
        exact ⟨HB1.out.alloc (by omega) _, by rw [HPR.out]⟩
      | some q =>
        obtain ⟨⟨x, t⟩, k⟩ := q
        rw [hh] at he hpr
        simp only at he hpr
        obtain ⟨⟨hx, hxt⟩, hp1, hpk⟩ := heldR_bound (by rw [← size_bl]; exact hz) hh
        rw [← size_bl] at hpk
        simp only at hx hxt
        subst he
        have HPR := Lib.hid hpr
        clear hpr h45 hh
        generalize hsz : plen (x, t) = sz at *
        clear hsz
        go_wp2_with fail
        refine (bytes_any (wrap64 (x + 1)) 0 text _ (by unfold wrap64; omega) (by unfold wrap64; omega) (by omega) (G1.out.alloc _)).mono ?_
        rintro e w2 ⟨z, rfl, hzz, HZ, hb2⟩
        have RC := Lib.hid (one_new hb2)
        have B2 := Lib.hid (blk_keep BX.out hb2 hz1)
        have HB2 := Lib.hid (below_at HB1.out (by omega) hb2)
        have hz2 : w1.heap.size < w2.heap.size := by have := hb2.size; simp at this; omega
        have hz2a : w.heap.size < w2.heap.size := by omega
        have hpr2 : putR room (bl fast) (bl text) = if room < (sz : Int) + (z.size : Int) then .inl 263 else .inr ((if sz < fast.size then [keepAct k (k + sz), fastAct] else []) ++ [addAct z, fastAct, keepAct sz (sz + z.size), fastAct]) := by
          rw [HPR.out, ← HZ.out, mk_bl, ← size_bl, ← size_bl]
        have HP := Lib.hid hpr2
        clear hb2 hpr2 HPR e0 e1
        have e0 : w2.cell? ⟨w.heap.size, 0, none⟩ = some (.int .i64 room) := Lib.cell_of_heap B2.out 0
        have e1 : w2.cell? ⟨w.heap.size, 1, none⟩ = some (.string fast) := Lib.cell_of_heap B2.out 1
        have d2 : w2.cell? ⟨w1.heap.size, 2, none⟩ = some (.int .i64 sz) := Lib.cell_of_heap RC.out 2
        by_cases hroom : room < (sz : Int) + (z.size : Int)
        · go_wp2_with fail
          refine bodyPost_ret (v := .tuple #[.slice none 0 0, .int .i64 263]) (by simp [results, Tryz.results64, go_sem]) rfl ?_
          exact ⟨HB2.out, by rw [HP.out, if_pos hroom]⟩
        · by_cases hlt : sz < fast.size
          · have hlt' : (sz : Int) < fast.size := by omega
            go_wp2_with fail
            refine (keep_any _ _ _).mono ?_
            rintro e w3 ⟨A3, c3, rfl, HO3, hb3⟩
            have B3 := Lib.hid ((hb3.block _ hz2a).trans B2.out)
            have RC3 := Lib.hid ((hb3.block _ hz2).trans RC.out)
            have HB3 := Lib.hid (HB2.out.trans (hb3.mono (by omega)))
            have hz3 : w2.heap.size ≤ w3.heap.size := hb3.size
            clear hb3 e0 e1 d2
            have HX : True := trivial
            obtain ⟨i0, hi0, hz0, hz1', hz2'⟩ := info_parts infoAct
            have hz3a : w.heap.size < w3.heap.size := by omega
            have hz3b : w1.heap.size < w3.heap.size := by omega
            go_wp2_with fail
            refine (add_any z _).mono ?_
            rintro e w4 ⟨rfl, hb4⟩
            have HO4 := Lib.hid (own_below HO3.out hb4)
            have B4 := Lib.hid ((hb4.block _ hz3a).trans B3.out)
            have RC4 := Lib.hid ((hb4.block _ hz3b).trans RC3.out)
            have HB4 := Lib.hid (HB3.out.trans (hb4.mono (by omega)))
            have hz4 : w2.heap.size ≤ w4.heap.size := by have := hb4.size; omega
            clear hb4
            go_wp2_with (at_builtin; refine wpList_append_own _ rfl _ _ 22 rfl w2.heap.size 41 i0 _ 4 40 Tryz.underlying22 hi0 hz0 hz1' hz2' rfl (by decide) _ _ _ rfl (HO4.out.alloc _) ⟨w4.heap.size, 0, none⟩ 2 2 (actCells [addAct z, fastAct]) rfl ?c1 ?c2 ?c3 ?c4 ?c5 ?c6 ?_)
            case c1 => rfl
            case c2 => exact fun j u hu => by rw [addr_add, Nat.zero_add, World.cell?_alloc_new]; simpa [actCells, RAct.vals, addAct, fastAct] using hu
            case c3 => exact actCells_one _
            case c4 => simp [maxLen]
            case c5 => simp
            case c6 => simp; omega
            intro v5 w5 hown5 hgr5 _
            obtain ⟨A5, c5, rfl⟩ := own_form hown5
            try simp only [List.length_cons, List.length_nil, Nat.reduceAdd] at hown5
            have hne5 : ∀ b, b < w2.heap.size → some b ≠ Value.ownBlock (Value.slice A3 2 c3) := fun b hb e => by have := (HO4.out.lt b e.symm).1; omega
            have B5 := Lib.hid ((hgr5.block w.heap.size (by simp; omega) (hne5 _ (by omega))).trans ((Below.heap_alloc _ _ _ (by omega)).trans B4.out))
            have RC5 := Lib.hid ((hgr5.block w1.heap.size (by simp; omega) (hne5 _ (by omega))).trans ((Below.heap_alloc _ _ _ (by omega)).trans RC4.out))
            have HB5 := Lib.hid (HB4.out.alloc (by omega) _ |>.grown hgr5 (by simp; omega) (fun b hb => by have := (HO4.out.lt b hb).1; omega))
            have hz5 : w2.heap.size < w5.heap.size := by have := hgr5.size; simp at this; omega
            have HO5 : Hid (OwnActs w2.heap.size w5 (.slice A5 _ c5) ([keepAct k (k + sz), fastAct] ++ [addAct z, fastAct])) := hown5
            clear hgr5 hown5 hne5 HO4 HO3
            have d5 : w5.cell? ⟨w1.heap.size, 2, none⟩ = some (.int .i64 sz) := Lib.cell_of_heap RC5.out 2
            have hz5a : w1.heap.size < w5.heap.size := by omega
            go_wp2_with fail
            refine (keep_any _ _ _).mono ?_
            rintro e w6 ⟨A6, c6, rfl, HK6, hb6⟩
            have HO6 := Lib.hid (own_below HO5.out hb6)
            have HB6 := Lib.hid (HB5.out.trans (hb6.mono (by omega)))
            have hz6 : w5.heap.size ≤ w6.heap.size := hb6.size
            clear hb6
            obtain ⟨g6, rfl⟩ : ∃ g : Nat, A6 = some ⟨g, 0, none⟩ := by
              rcases HK6.out.2 with ⟨e, h0⟩ | ⟨g, cap, cur, e, _⟩
              · cases h0
              · injection e with e; exact ⟨g, e⟩
            have hc6 : 2 ≤ c6 := by
              rcases HK6.out.2 with ⟨e, h0⟩ | ⟨g, cap, cur, e, hg, hb, hc, _⟩
              · cases h0
              · injection e with e1 e2 e3; subst e3; exact hc
            go_wp2_with (at_builtin; refine wpList_append_own _ rfl _ _ 22 rfl w2.heap.size 41 i0 _ 4 40 Tryz.underlying22 hi0 hz0 hz1' hz2' rfl (by decide) _ _ _ rfl HO6.out ⟨g6, 0, none⟩ 2 c6 (actCells [keepAct sz (sz + z.size), fastAct]) rfl ?c1 ?c2 ?c3 ?c4 ?c5 ?c6 ?_)
            case c1 => rfl
            case c2 => exact fun j u hu => ActsIn.news HK6.out.reads j u hu
            case c3 => exact actCells_one _
            case c4 => simp [maxLen]
            case c5 => simp
            case c6 => omega
            intro v7 w7 hown7 hgr7 _
            obtain ⟨A7, c7, rfl⟩ := own_form hown7
            go_wp2_with fail
            refine bodyPost_ret (v := .tuple #[.slice A7 _ c7, .int .i64 0]) (by simp [results, Tryz.results64, go_sem]; rfl) rfl ?_
            have hlt7 := HO6.out.lt
            refine ⟨HB6.out.grown hgr7 (by omega) (fun b hb => by have := (hlt7 b hb).1; omega), ?_⟩
            rw [HP.out, if_neg (by omega), if_pos hlt]
            refine ⟨A7, c7, rfl, ?_⟩
            exact OwnActs.mono' hown7 (by omega)
            
          · have hlt' : ¬ (sz : Int) < fast.size := by omega
            have HO3 : Hid (OwnActs w2.heap.size w2 (.slice none 0 0) []) := World.ownsRow_nil _ _ _ _
            have B3 := B2
            have RC3 := RC
            have HB3 := HB2
            have hz3 : w2.heap.size ≤ w2.heap.size := Nat.le_refl _
            have HX : True := trivial
            obtain ⟨i0, hi0, hz0, hz1', hz2'⟩ := info_parts infoAct
            have hz3a : w.heap.size < w2.heap.size := by omega
            have hz3b : w1.heap.size < w2.heap.size := by omega
            go_wp2_with fail
            refine (add_any z _).mono ?_
            rintro e w4 ⟨rfl, hb4⟩
            have HO4 := Lib.hid (own_below HO3.out hb4)
            have B4 := Lib.hid ((hb4.block _ hz3a).trans B3.out)
            have RC4 := Lib.hid ((hb4.block _ hz3b).trans RC3.out)
            have HB4 := Lib.hid (HB3.out.trans (hb4.mono (by omega)))
            have hz4 : w2.heap.size ≤ w4.heap.size := by have := hb4.size; omega
            clear hb4
            go_wp2_with (at_builtin; refine wpList_append_own _ rfl _ _ 22 rfl w2.heap.size 41 i0 _ 4 40 Tryz.underlying22 hi0 hz0 hz1' hz2' rfl (by decide) _ _ _ rfl (HO4.out.alloc _) ⟨w4.heap.size, 0, none⟩ 2 2 (actCells [addAct z, fastAct]) rfl ?c1 ?c2 ?c3 ?c4 ?c5 ?c6 ?_)
            case c1 => rfl
            case c2 => exact fun j u hu => by rw [addr_add, Nat.zero_add, World.cell?_alloc_new]; simpa [actCells, RAct.vals, addAct, fastAct] using hu
            case c3 => exact actCells_one _
            case c4 => simp [maxLen]
            case c5 => simp
            case c6 => simp; omega
            intro v5 w5 hown5 hgr5 _
            obtain ⟨A5, c5, rfl⟩ := own_form hown5
            try simp only [List.length_cons, List.length_nil, Nat.reduceAdd] at hown5
            have hne5 : ∀ b, b < w2.heap.size → some b ≠ Value.ownBlock (Value.slice none 0 0) := fun b hb e => by have := (HO4.out.lt b e.symm).1; omega
            have B5 := Lib.hid ((hgr5.block w.heap.size (by simp; omega) (hne5 _ (by omega))).trans ((Below.heap_alloc _ _ _ (by omega)).trans B4.out))
            have RC5 := Lib.hid ((hgr5.block w1.heap.size (by simp; omega) (hne5 _ (by omega))).trans ((Below.heap_alloc _ _ _ (by omega)).trans RC4.out))
            have HB5 := Lib.hid (HB4.out.alloc (by omega) _ |>.grown hgr5 (by simp; omega) (fun b hb => by have := (HO4.out.lt b hb).1; omega))
            have hz5 : w2.heap.size < w5.heap.size := by have := hgr5.size; simp at this; omega
            have HO5 : Hid (OwnActs w2.heap.size w5 (.slice A5 _ c5) ([] ++ [addAct z, fastAct])) := hown5
            clear hgr5 hown5 hne5 HO4 HO3
            have d5 : w5.cell? ⟨w1.heap.size, 2, none⟩ = some (.int .i64 sz) := Lib.cell_of_heap RC5.out 2
            have hz5a : w1.heap.size < w5.heap.size := by omega
            go_wp2_with fail
            refine (keep_any _ _ _).mono ?_
            rintro e w6 ⟨A6, c6, rfl, HK6, hb6⟩
            have HO6 := Lib.hid (own_below HO5.out hb6)
            have HB6 := Lib.hid (HB5.out.trans (hb6.mono (by omega)))
            have hz6 : w5.heap.size ≤ w6.heap.size := hb6.size
            clear hb6
            obtain ⟨g6, rfl⟩ : ∃ g : Nat, A6 = some ⟨g, 0, none⟩ := by
              rcases HK6.out.2 with ⟨e, h0⟩ | ⟨g, cap, cur, e, _⟩
              · cases h0
              · injection e with e; exact ⟨g, e⟩
            have hc6 : 2 ≤ c6 := by
              rcases HK6.out.2 with ⟨e, h0⟩ | ⟨g, cap, cur, e, hg, hb, hc, _⟩
              · cases h0
              · injection e with e1 e2 e3; subst e3; exact hc
            go_wp2_with (at_builtin; refine wpList_append_own _ rfl _ _ 22 rfl w2.heap.size 41 i0 _ 4 40 Tryz.underlying22 hi0 hz0 hz1' hz2' rfl (by decide) _ _ _ rfl HO6.out ⟨g6, 0, none⟩ 2 c6 (actCells [keepAct sz (sz + z.size), fastAct]) rfl ?c1 ?c2 ?c3 ?c4 ?c5 ?c6 ?_)
            case c1 => rfl
            case c2 => exact fun j u hu => ActsIn.news HK6.out.reads j u hu
            case c3 => exact actCells_one _
            case c4 => simp [maxLen]
            case c5 => simp
            case c6 => omega
            intro v7 w7 hown7 hgr7 _
            obtain ⟨A7, c7, rfl⟩ := own_form hown7
            go_wp2_with fail
            refine bodyPost_ret (v := .tuple #[.slice A7 _ c7, .int .i64 0]) (by simp [results, Tryz.results64, go_sem]; rfl) rfl ?_
            have hlt7 := HO6.out.lt
            refine ⟨HB6.out.grown hgr7 (by omega) (fun b hb => by have := (hlt7 b hb).1; omega), ?_⟩
            rw [HP.out, if_neg (by omega), if_neg hlt]
            refine ⟨A7, c7, rfl, ?_⟩
            exact OwnActs.mono' hown7 (by omega)
            
  · rw [if_neg hn]
    have hn' : (0 : Int) < n := by omega
    go_enter Tryz.func64, Tryz.ntmps64
    go_wp2_with fail
    refine bodyPost_ret (v := .tuple #[.slice none 0 0, .int .i64 260]) (by simp [results, Tryz.results64, go_sem]) rfl ?_
    exact ⟨(Below.refl _ _).alloc (Nat.le_refl _) _, rfl⟩
end Go.Proofs.YtinkdjeanjhkbaaGreatDoor
