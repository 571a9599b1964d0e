/-
  The walk of image.Act.
-/
import Derived.Test.YtinkdjeanjhkbaaGreatDoorE
namespace Go.Proofs.YtinkdjeanjhkbaaGreatDoor
open Go.RowKit
attribute [local go_sem] size_mkB

theorem OwnActs.mono' {B B' : Nat} {w : World} {v : Value} {l : List RAct} (h : OwnActs B w v l) (hB : B' ≤ B) : w.ownsRow B' 41 4 v l.length (actCells l) := by
  refine ⟨h.1, ?_⟩
  rcases h.2 with e | ⟨g, cap, cur, e, hg, r⟩
  · exact Or.inl e
  · exact Or.inr ⟨g, cap, cur, e, by omega, r⟩

def zRib : Rib := ⟨0, ⟨#[]⟩, []⟩

/-- how a ribbon, or an error, is returned -/
def RibOut (err : Int) (o : Option Rib) (w : World) (e : Ending) (w' : World) : Prop :=
  ∃ A cap, (match o with
    | none => e = .returned (.tuple #[.agg #[.int .i64 0, .string ⟨#[]⟩, .slice none 0 0], .int .i64 err])
    | some r => ActsIn w'.heap.size w' (.slice A r.acts.length cap) r.acts ∧ e = .returned (.tuple #[.agg #[.int .i64 r.room, .string r.fast, .slice A r.acts.length cap], .int .i64 0])) ∧ Below w.heap.size w w'

/-- Act's own blocks: the ribbon's (number n) and the result's (n + 1) -/
structure ActInv (w : World) (wr : World) (r : Rib) (v : Value) : Prop where
  box : wr.heap[w.heap.size]? = some (.cells #[.int .i64 r.room, .string r.fast, v] 24 (0, 0))
  res : wr.heap[w.heap.size + 1]? = some (.cells #[.int .i64 0, .string ⟨#[]⟩, .slice none 0 0] 24 (0, 0))
  own : OwnActs (w.heap.size + 2) wr v r.acts
  below : Below w.heap.size w wr
  size : w.heap.size + 2 ≤ wr.heap.size

theorem heap_setCell_at {w : World} {b : Nat} {c : Array Value} {t : TypeId} {f : Nat × Nat} (h : w.heap[b]? = some (.cells c t f)) (j : Nat) (u : Value) :
    (w.setCell ⟨b, j, none⟩ u).heap[b]? = some (.cells (c.setIfInBounds j u) t f) := by
  simp [World.setCell, Array.getElem?_modify, h]

theorem in_below {W w' w'' : World} (hB : Hid (Below W.heap.size W w')) (h : Below w'.heap.size w' w'') :
    Hid (Below W.heap.size W w'') ∧ (∀ b o, b < W.heap.size → w''.cell? ⟨b, o, none⟩ = w'.cell? ⟨b, o, none⟩) ∧ (∀ b o, b < W.heap.size → w''.frozen? ⟨b, o, none⟩ = w'.frozen? ⟨b, o, none⟩) := by
  have hs := hB.out.size
  exact ⟨hB.out.trans (h.mono hs), (bcell (h.mono hs)).1, (bcell (h.mono hs)).2⟩

theorem blk_keep {w w1 : World} {o x : Obj} {b : Nat} (h : w.heap[b]? = some x) (hb : Below (w.alloc o).heap.size (w.alloc o) w1) (hlt : b < w.heap.size) : w1.heap[b]? = some x := by
  rw [hb.block _ (by simp; omega), Below.heap_alloc _ _ _ hlt]; exact h

theorem act_start (w w1 w2 : World) (r : Rib) (v v2 : Value)
    (h1 : Below ((w.alloc (Obj.cells #[Value.int IntKind.i64 r.room, Value.string r.fast, v] 24)).alloc (Obj.cells #[Value.int IntKind.i64 0, Value.string { data := #[] }, Value.slice none 0 0] 24)).heap.size
      ((w.alloc (Obj.cells #[Value.int IntKind.i64 r.room, Value.string r.fast, v] 24)).alloc (Obj.cells #[Value.int IntKind.i64 0, Value.string { data := #[] }, Value.slice none 0 0] 24)) w1)
    (h2 : OwnActs w1.heap.size w2 v2 r.acts) (h3 : Below w1.heap.size w1 w2) : Hid (ActInv w (w2.setCell ⟨w.heap.size, 2, none⟩ v2) r v2) := by
  have s1 := h1.size
  have s2 := h3.size
  simp at s1
  have e0 : w2.heap[w.heap.size]? = some (.cells #[Value.int IntKind.i64 r.room, Value.string r.fast, v] 24 (0, 0)) := by
    rw [h3.block _ (by omega), h1.block _ (by simp; omega), Below.heap_alloc _ _ _ (by simp)]; exact heap_alloc_new w _
  have e1 : w2.heap[w.heap.size + 1]? = some (.cells #[Value.int IntKind.i64 0, Value.string { data := #[] }, Value.slice none 0 0] 24 (0, 0)) := by
    rw [h3.block _ (by omega), h1.block _ (by simp)]
    have := heap_alloc_new (w.alloc (Obj.cells #[Value.int IntKind.i64 r.room, Value.string r.fast, v] 24)) (Obj.cells #[Value.int IntKind.i64 0, Value.string { data := #[] }, Value.slice none 0 0] 24)
    simpa using this
  refine ⟨?_, ?_, ?_, ?_, ?_⟩
  · rw [heap_setCell_at e0]; rfl
  · rw [Below.heap_setCell _ _ _ _ (by simp)]; exact e1
  · exact ownsRow_setCell_below (h2.mono' (by omega)) (by simp) _
  · refine Below.setCell ?_ (by simp) _
    exact (((Below.refl w.heap.size w).alloc (Nat.le_refl _) _).alloc (by simp) _).trans ((h1.mono (by simp; omega)).trans (h3.mono (by omega)))
  · simp [World.setCell]; omega

theorem own_below {w w' : World} {base e size n : Nat} {v : Value} {xs : List Value} (h : w.ownsRow base e size v n xs) (hb : Below w.heap.size w w') : w'.ownsRow base e size v n xs := by
  refine ⟨h.1, ?_⟩
  have hlt := h.lt
  rcases h.2 with e | ⟨g, cap, cur, e, hg, hh, r⟩
  · exact Or.inl e
  · exact Or.inr ⟨g, cap, cur, e, hg, by rw [hb.block g (hlt g (by rw [e]; rfl)).2]; exact hh, r⟩

theorem act_fast {w w4 w6 : World} {r : Rib} {v : Value} {z1 z2 : ByteArray} (h4 : Below w.heap.size w w4)
    (hb : w4.heap[w.heap.size]? = some (.cells #[.int .i64 r.room, .string r.fast, v] 24 (0, 0)))
    (hr : w4.heap[w.heap.size + 1]? = some (.cells #[.int .i64 0, .string ⟨#[]⟩, .slice none 0 0] 24 (0, 0)))
    (hs : w.heap.size < w4.heap.size) (hs1 : w.heap.size + 1 < w4.heap.size) (h6 : Hid (Below w4.heap.size w4 w6)) (h1 : Hid (bl z1 = keptL (bl r.fast) r.acts)) (h2 : Hid (bl z2 = addedL r.acts)) :
    Hid (ActInv w ((w6.setCell ⟨w.heap.size, 1, none⟩ (.string (z1 ++ z2))).setCell ⟨w.heap.size, 2, none⟩ (.slice none 0 0)) (fastened r) (.slice none 0 0)) := by
  have e : (fastened r).fast = z1 ++ z2 := bl_inj (by rw [bl_append, h1.out, h2.out]; exact bl_mk _)
  have hb6 := (h6.out.block _ hs).trans hb
  have hr6 := (h6.out.block _ hs1).trans hr
  have s6 := h6.out.size
  refine ⟨?_, ?_, World.ownsRow_nil _ _ _ _, ?_, ?_⟩
  · rw [e, heap_setCell_at (heap_setCell_at hb6 1 _) 2]; rfl
  · rw [Below.heap_setCell _ _ _ _ (by simp), Below.heap_setCell _ _ _ _ (by simp)]; exact hr6
  · exact ((h4.trans (h6.out.mono (by omega))).setCell (by simp) _).setCell (by simp) _
  · simp [World.setCell]; omega

theorem ActInv.below' {w wr w6 : World} {r : Rib} {v : Value} (h : ActInv w wr r v) (hb : Below wr.heap.size wr w6) : ActInv w w6 r v := by
  obtain ⟨h1, h2, h3, h4, h5⟩ := h
  have := hb.size
  exact ⟨(hb.block _ (by omega)).trans h1, (hb.block _ (by omega)).trans h2, own_below h3 hb, h4.trans (hb.mono (by omega)), by omega⟩

theorem act_done {w wr : World} {r : Rib} {v : Value} (h : ActInv w wr r v) (x y z : Value) :
    ActsIn (((wr.setCell ⟨w.heap.size + 1, 0, none⟩ x).setCell ⟨w.heap.size + 1, 1, none⟩ y).setCell ⟨w.heap.size + 1, 2, none⟩ z).heap.size
      (((wr.setCell ⟨w.heap.size + 1, 0, none⟩ x).setCell ⟨w.heap.size + 1, 1, none⟩ y).setCell ⟨w.heap.size + 1, 2, none⟩ z) v r.acts :=
  OwnActs.reads (base := w.heap.size + 2) (ownsRow_setCell_below (ownsRow_setCell_below (ownsRow_setCell_below h.own (by simp) _) (by simp) _) (by simp) _)

theorem act_append {w w5 : World} {r : Rib} {a : RAct} {v : Value} {A5 : Option Addr} {c5 : Nat} (h5 : Below w.heap.size w w5)
    (hb : w5.heap[w.heap.size]? = some (.cells #[.int .i64 r.room, .string r.fast, v] 24 (0, 0)))
    (hr : w5.heap[w.heap.size + 1]? = some (.cells #[.int .i64 0, .string ⟨#[]⟩, .slice none 0 0] 24 (0, 0)))
    (ho : w5.ownsRow (w.heap.size + 2) 41 4 (.slice A5 (r.acts.length + 1) c5) (r.acts.length + 1) (actCells r.acts ++ a.vals)) (hs1 : w.heap.size + 1 < w5.heap.size) :
    ActInv w (w5.setCell ⟨w.heap.size, 2, none⟩ (.slice A5 (r.acts.length + 1) c5)) { r with acts := r.acts ++ [a] } (.slice A5 (r.acts.length + 1) c5) ∧
    ActsIn (w5.setCell ⟨w.heap.size, 2, none⟩ (.slice A5 (r.acts.length + 1) c5)).heap.size (w5.setCell ⟨w.heap.size, 2, none⟩ (.slice A5 (r.acts.length + 1) c5)) (.slice A5 (r.acts.length + 1) c5) (r.acts ++ [a]) := by
  have hO : OwnActs (w.heap.size + 2) (w5.setCell ⟨w.heap.size, 2, none⟩ (.slice A5 (r.acts.length + 1) c5)) (.slice A5 (r.acts.length + 1) c5) (r.acts ++ [a]) := by
    have := ownsRow_setCell_below ho (a := ⟨w.heap.size, 2, none⟩) (by simp) (.slice A5 (r.acts.length + 1) c5)
    unfold OwnActs
    rw [actCells_append, List.length_append]
    simpa [actCells] using this
  refine ⟨⟨?_, ?_, hO, ?_, ?_⟩, hO.reads⟩
  · rw [heap_setCell_at hb]; rfl
  · rw [Below.heap_setCell _ _ _ _ (by simp)]; exact hr
  · exact h5.setCell (by simp) _
  · simp [World.setCell]; omega

set_option maxHeartbeats 1600000 in
set_option maxRecDepth 100000 in
theorem act_any (r : Rib) (v lv : Value) (l : List RAct) (w : World) (hv : ActsIn w.heap.size w v r.acts) (hl : ActsIn w.heap.size w lv l) :
    Calls Tryz.prog 5 #[.agg #[.int .i64 r.room, .string r.fast, v], lv] w (RibOut 260 (actR r l) w) := by
  have HV := Lib.hid hv
  clear hv
  obtain ⟨A, cap, rfl, hc, ⟨hcm, hcl⟩, hcells⟩ := hl
  clear hcm
  by_cases hval : r.valid
  · have h0 : checkR r.room r.fast r.acts = 0 := hval
    have hspec : actR r l = actsFrom r l := by simp only [actR]; rw [if_pos hval]
    have hlen : r.acts.length ≤ 1000000000 := by have := valid_len hval; omega
    go_enter Tryz.func5, Tryz.ntmps5
    go_wp2_with fail
    refine (check_any _ _ _ _ _ ((HV.out.below (((Below.refl _ _).alloc (Nat.le_refl _) _).alloc (by simp) _)).mono (by simp; omega))).mono ?_
    rintro e w1 ⟨rfl, hb1⟩
    have HB1 := Lib.hid hb1
    obtain ⟨hc1, hf1⟩ := bcell hb1
    have hz1 : w.heap.size + 1 < w1.heap.size := by have := hb1.size; simp at this; omega
    have hz0 : w.heap.size < w1.heap.size := by omega
    clear hb1
    go_wp2_with fail
    refine (clone_any _ r.acts _ ((HV.out.below ((((Below.refl _ _).alloc (Nat.le_refl _) _).alloc (by simp) _).trans (HB1.out.mono (by simp; omega)))).mono (by omega)) hlen).mono ?_
    rintro e w2 ⟨A2, c2, rfl, HO, hb2⟩
    have HI := act_start w w1 w2 r v _ HB1.out HO.out hb2
    have hz2 : w.heap.size + 1 < w2.heap.size := by have := hb2.size; omega
    obtain ⟨hc2, hf2⟩ := bcell hb2
    clear hb2 h0
    go_wp2_with fail
    generalize w2.setCell ⟨w.heap.size, 2, none⟩ (.slice A2 r.acts.length c2) = w3 at HI
    clear hc1 hf1 hc2 hf2 HB1 HO
    clear hz1 hz2 hz0
    clear w1 w2
    go_loopw [18] (fun i wr => ∃ (k : Nat) (rk : Rib) (vk : Value), k ≤ l.length ∧ i = .int .i64 k ∧ Hid (rk.valid) ∧ Hid (actsFrom r l = actsFrom rk (l.drop k)) ∧ Hid (ActInv w wr rk vk))
      (fun i _ => l.length - (intOf i).toNat)
    case atStart => exact ⟨0, r, _, Nat.zero_le _, rfl, hval, rfl, HI⟩
    case round =>
      obtain ⟨k, rk, vk, hk, rfl, HVk, HS, HI⟩ := hrel
      obtain ⟨Ak, ck, rfl⟩ := own_form HI.out.own
      obtain ⟨hcr, hfr⟩ := bcell HI.out.below
      have d0 := Lib.cell_of_heap HI.out.box 0
      have d1 := Lib.cell_of_heap HI.out.box 1
      have d2 := Lib.cell_of_heap HI.out.box 2
      have g0 := Lib.cell_of_heap HI.out.res 0
      have g1 := Lib.cell_of_heap HI.out.res 1
      have g2 := Lib.cell_of_heap HI.out.res 2
      have fd := Lib.frozen_of_heap HI.out.box
      have fg := Lib.frozen_of_heap HI.out.res
      simp only [List.getElem?_toArray, List.getElem?_cons_zero, List.getElem?_cons_succ] at d0 d1 d2 g0 g1 g2
      have hsz := HI.out.size
      have hsz0 : w.heap.size < wr.heap.size := by omega
      have hsz1 : w.heap.size + 1 < wr.heap.size := by omega
      clear hsz
      by_cases hlt : k < l.length
      · obtain ⟨b, o, rfl, hb, hall⟩ := hcells (by omega)
        obtain ⟨c0, c1, c2, c3⟩ := hall k hlt
        clear hall hcells
        have hdr := drop_acts l k hlt
        generalize ha : l.getD k zAct = a at c0 c1 c2 c3 hdr
        clear ha
        rw [hdr] at HS
        clear hdr
        by_cases hok : actOk a = true
        · by_cases hk3 : a.kind = 3
          · have hk3b : (a.kind == 3) = true := by simp [hk3]
            have HK3 := Lib.hid hk3
            clear hk3
            go_wp2_with fail
            refine (isAct_any _ _).mono ?_
            rintro e w4 ⟨rfl, hb4⟩
            have HB4 := Lib.hid (below_at HI.out.below (by omega) hb4)
            have hz4 : wr.heap.size < w4.heap.size := by have := hb4.size; simp at this; omega
            have hz4a : w.heap.size < w4.heap.size := by omega
            have hAct : Hid (∀ w', Below w4.heap.size w4 w' → ActsIn w'.heap.size w' (.slice Ak rk.acts.length ck) rk.acts) := fun w' hB =>
              (((HI.out.own.reads.below ((Below.refl wr.heap.size wr).alloc (Nat.le_refl _) _)).below (hb4.mono (by simp))).below (hB.mono (by omega))).mono (by have := hB.size; omega)
            have bx4 := blk_keep HI.out.box hb4 hsz0
            have rs4 := blk_keep HI.out.res hb4 hsz1
            have e0 : w4.cell? ⟨w.heap.size, 0, none⟩ = some (.int .i64 rk.room) := Lib.cell_of_heap bx4 0
            have e1 : w4.cell? ⟨w.heap.size, 1, none⟩ = some (.string rk.fast) := Lib.cell_of_heap bx4 1
            have e2 : w4.cell? ⟨w.heap.size, 2, none⟩ = some (.slice Ak rk.acts.length ck) := Lib.cell_of_heap bx4 2
            have e3 := Lib.frozen_of_heap bx4
            have B4 := Lib.hid bx4
            have R4 := Lib.hid rs4
            clear bx4 rs4
            have eK0 : w4.cell? ⟨wr.heap.size, 0, none⟩ = some (.int .i64 a.kind) := by rw [(bcell hb4).1 _ _ (by simp)]; simp
            clear hb4 hcr hfr d0 d1 d2 g0 g1 g2 fd fg c0 c1 c2 c3
            obtain ⟨v1, v2, v3, v4, v5, v6⟩ := (valid_iff _ _ _).1 HVk.out
            have hB0 : Hid (Below w4.heap.size w4 w4.drew) := (Below.refl _ _).drew
            clear v1 v4
            have V5 := Lib.hid v5
            clear v5
            go_wp2_with fail
            go_region_with
              (first
                | (go_at_call 23
                   refine (kept_any _ _ _ _ _ (hAct.out _ (Hid.out ?_)) ?_ ?_).mono ?_
                   · assumption
                   · exact V5.out
                   · omega
                   rintro e w5 ⟨z, rfl, hz, HZ, hb5⟩
                   obtain ⟨hB5, hc5, hf5⟩ := in_below (by assumption) hb5
                   have k1 := fun (y : ByteArray) (W : World) (h : y.size ≤ 100000000000) => cat_run (P := Tryz.prog) (a := z) (b := y) W (by omega)
                   clear hb5)
                | (go_at_call 24
                   refine (added_any _ _ _ _ _ (hAct.out _ (Hid.out ?_)) ?_).mono ?_
                   · assumption
                   · omega
                   rintro e w5 ⟨z, rfl, hz, HZ, hb5⟩
                   obtain ⟨hB5, hc5, hf5⟩ := in_below (by assumption) hb5
                   have k2 := fun (y : ByteArray) (W : World) (h : y.size ≤ rk.fast.size) => cat_run (P := Tryz.prog) (a := y) (b := z) W (by omega)
                   clear hb5))
            all_goals
              go_wp2
              go_roundw
              case rel => exact ⟨k + 1, fastened rk, .slice none 0 0, by omega, by go_num, fastened_valid HVk.out, by simp only [Hid]; rw [HS.out, actsFrom, actStep, if_neg (by simp [hok]), if_pos HK3.out],
                act_fast HB4.out B4.out R4.out (by omega) (by omega) (by assumption) (by assumption) (by assumption)⟩
              case measure => simp [intOf]; omega
          · have hk3b : (a.kind == 3) = false := by simp [hk3]
            have HK3 := Lib.hid hk3
            clear hk3
            go_wp2_with fail
            refine (isAct_any _ _).mono ?_
            rintro e w4 ⟨rfl, hb4⟩
            have HB4 := Lib.hid (below_at HI.out.below (by omega) hb4)
            have hz4 : wr.heap.size < w4.heap.size := by have := hb4.size; simp at this; omega
            have hz4a : w.heap.size < w4.heap.size := by omega
            have bx4 := blk_keep HI.out.box hb4 hsz0
            have rs4 := blk_keep HI.out.res hb4 hsz1
            have HO4 : Hid (OwnActs (w.heap.size + 2) w4 (.slice Ak rk.acts.length ck) rk.acts) := own_below (own_below HI.out.own ((Below.refl wr.heap.size wr).alloc (Nat.le_refl _) _)) hb4
            have e0 : w4.cell? ⟨w.heap.size, 0, none⟩ = some (.int .i64 rk.room) := Lib.cell_of_heap bx4 0
            have e1 : w4.cell? ⟨w.heap.size, 1, none⟩ = some (.string rk.fast) := Lib.cell_of_heap bx4 1
            have e2 : w4.cell? ⟨w.heap.size, 2, none⟩ = some (.slice Ak rk.acts.length ck) := Lib.cell_of_heap bx4 2
            have e3 := Lib.frozen_of_heap bx4
            have B4 := Lib.hid bx4
            have R4 := Lib.hid rs4
            clear bx4 rs4
            have eK := (bcell hb4).1 wr.heap.size
            simp only [World.size_alloc, Nat.lt_succ_self, forall_const] at eK
            have eK0 : w4.cell? ⟨wr.heap.size, 0, none⟩ = some (.int .i64 a.kind) := by rw [eK]; simp
            have eK1 : w4.cell? ⟨wr.heap.size, 1, none⟩ = some (.string a.text) := by rw [eK]; simp
            have eK2 : w4.cell? ⟨wr.heap.size, 2, none⟩ = some (.int .i64 a.frm) := by rw [eK]; simp
            have eK3 : w4.cell? ⟨wr.heap.size, 3, none⟩ = some (.int .i64 a.to) := by rw [eK]; simp
            clear hb4 hcr hfr d0 d1 d2 g0 g1 g2 fd fg c0 c1 c2 c3 eK
            obtain ⟨i0, hi0, hz0, hz1, hz2⟩ := info_parts infoAct
            have hll : rk.acts.length ≤ 1000000000 := by have := valid_len HVk.out; omega
            go_wp2_with (at_builtin; refine wpList_append_own _ rfl _ _ 22 rfl (w.heap.size + 2) 41 i0 _ 4 40 Tryz.underlying22 hi0 hz0 hz1 hz2 rfl (by decide) _ _ _ rfl (HO4.out.alloc _) ⟨w4.heap.size, 0, none⟩ 1 1 a.vals rfl ?c1 ?c2 ?c3 ?c4 ?c5 ?c6 ?_)
            case c1 => rfl
            case c2 => exact fun j u hu => by rw [addr_add, Nat.zero_add, World.cell?_alloc_new]; simpa [RAct.vals] using hu
            case c3 => exact fun u hu => by simp [RAct.vals] at hu; rcases hu with rfl | rfl | rfl | rfl <;> rfl
            case c4 => unfold maxLen; omega
            case c5 => omega
            case c6 => simp; omega
            intro v' w5 hown hgr _
            obtain ⟨A5, c5, rfl⟩ := own_form hown
            have hne : ∀ b, b < w.heap.size + 2 → some b ≠ (Value.slice Ak rk.acts.length ck).ownBlock := fun b hb e => by
              have := (HO4.out.lt b e.symm).1; omega
            have B5 := Lib.hid ((hgr.block w.heap.size (by simp; omega) (hne _ (by omega))).trans ((Below.heap_alloc _ _ _ (by omega)).trans B4.out))
            have R5 := Lib.hid ((hgr.block (w.heap.size + 1) (by simp; omega) (hne _ (by omega))).trans ((Below.heap_alloc _ _ _ (by omega)).trans R4.out))
            have H5 := Lib.hid (HB4.out.alloc (by omega) _ |>.grown hgr (by simp; omega) (fun b hb => by have := (HO4.out.lt b hb).1; omega))
            have hz5 : w4.heap.size < w5.heap.size := by have := hgr.size; simp at this; omega
            have HO5 := Lib.hid hown
            clear hgr hown hne e0 e1 e2 e3 eK0 eK1 eK2 eK3
            have e0 : w5.cell? ⟨w.heap.size, 0, none⟩ = some (.int .i64 rk.room) := Lib.cell_of_heap B5.out 0
            have e1 : w5.cell? ⟨w.heap.size, 1, none⟩ = some (.string rk.fast) := Lib.cell_of_heap B5.out 1
            have e2 : w5.cell? ⟨w.heap.size, 2, none⟩ = some (.slice Ak rk.acts.length ck) := Lib.cell_of_heap B5.out 2
            have e3 := Lib.frozen_of_heap B5.out
            have g0 : w5.cell? ⟨w.heap.size + 1, 0, none⟩ = some (.int .i64 0) := Lib.cell_of_heap R5.out 0
            have g1 : w5.cell? ⟨w.heap.size + 1, 1, none⟩ = some (.string ⟨#[]⟩) := Lib.cell_of_heap R5.out 1
            have g2 : w5.cell? ⟨w.heap.size + 1, 2, none⟩ = some (.slice none 0 0) := Lib.cell_of_heap R5.out 2
            have g3 := Lib.frozen_of_heap R5.out
            have hz5a : w.heap.size < w5.heap.size := by omega
            have hz5b : w.heap.size + 1 < w5.heap.size := by omega
            go_wp2_with fail
            have HI6 := act_append H5.out B5.out R5.out HO5.out (by omega)
            refine (check_any _ _ _ (rk.acts ++ [a]) _ HI6.2).mono ?_
            rintro e w6 ⟨rfl, hb6⟩
            have hs6 : w5.heap.size ≤ w6.heap.size := by have := hb6.size; simpa [World.setCell] using this
            by_cases hv6 : ({ rk with acts := rk.acts ++ [a] } : Rib).valid
            · have hchk : checkR rk.room rk.fast (rk.acts ++ [a]) = 0 := hv6
              have HV6 := Lib.hid hv6
              clear hv6
              have HI7 := Lib.hid (HI6.1.below' hb6)
              clear HI6 hb6
              go_wp2_with fail
              go_roundw
              case rel => exact ⟨k + 1, { rk with acts := rk.acts ++ [a] }, _, by omega, by go_num, HV6.out, by simp only [Hid]; rw [HS.out, actsFrom, actStep, if_neg (by simp [hok]), if_neg HK3.out, if_pos HV6.out], HI7⟩
              case measure => simp [intOf]; omega
            · have hchk : checkR rk.room rk.fast (rk.acts ++ [a]) = 260 := by
                rcases check_01 rk.room rk.fast (rk.acts ++ [a]) with e | e
                · exact absurd e hv6
                · exact e
              have HV6 := Lib.hid hv6
              clear hv6
              have HI7 := Lib.hid (HI6.1.below' hb6)
              clear HI6 hb6 e0 e1 e2 e3 g0 g1 g2 g3
              have hz6b : w.heap.size + 1 < w6.heap.size := by omega
              have g0 : w6.cell? ⟨w.heap.size + 1, 0, none⟩ = some (.int .i64 0) := Lib.cell_of_heap HI7.out.res 0
              have g1 : w6.cell? ⟨w.heap.size + 1, 1, none⟩ = some (.string ⟨#[]⟩) := Lib.cell_of_heap HI7.out.res 1
              have g2 : w6.cell? ⟨w.heap.size + 1, 2, none⟩ = some (.slice none 0 0) := Lib.cell_of_heap HI7.out.res 2
              have g3 := Lib.frozen_of_heap HI7.out.res
              go_wp2_with fail
              refine bodyPost_ret (v := .tuple #[.agg #[.int .i64 0, .string ⟨#[]⟩, .slice none 0 0], .int .i64 260]) (by simp [results, Tryz.results5, go_sem, g0, g1, g2]) rfl ?_
              refine ⟨none, 0, ?_, ?_⟩
              · rw [hspec, HS.out, actsFrom, actStep, if_neg (by simp [hok]), if_neg HK3.out, if_neg HV6.out]
              · exact Below.setCell (Below.setCell (Below.setCell HI7.out.below (by simp) _) (by simp) _) (by simp) _
        · have hok2 : actOk a = false := by simpa using hok
          go_wp2_with fail
          refine (isAct_any _ _).mono ?_
          rintro e w4 ⟨rfl, hb4⟩
          obtain ⟨hc4, hf4⟩ := bcell hb4
          go_wp2_with fail
          refine bodyPost_ret (v := .tuple #[.agg #[.int .i64 0, .string ⟨#[]⟩, .slice none 0 0], .int .i64 260]) (by simp [results, Tryz.results5, go_sem, *]) rfl ?_
          refine ⟨none, 0, ?_, ?_⟩
          · rw [hspec, HS.out, actsFrom, actStep, if_pos hok2]
          · refine Below.setCell (Below.setCell (Below.setCell ?_ (by simp) _) (by simp) _) (by simp) _
            exact below_at HI.out.below (by omega) hb4
      · go_wp2_with fail
        refine bodyPost_ret (v := .tuple #[.agg #[.int .i64 rk.room, .string rk.fast, .slice Ak rk.acts.length ck], .int .i64 0]) (by simp [results, Tryz.results5, go_sem, g0, g1, g2]) rfl ?_
        refine ⟨Ak, ck, ?_, ?_⟩
        · rw [hspec, HS.out, List.drop_of_length_le (by omega)]
          exact ⟨act_done HI.out _ _ _, rfl⟩
        · exact Below.setCell (Below.setCell (Below.setCell HI.out.below (by simp) _) (by simp) _) (by simp) _
  · have h0 : checkR r.room r.fast r.acts = 260 := by
      rcases check_01 r.room r.fast r.acts with e | e
      · exact absurd e hval
      · exact e
    have hspec : actR r l = none := by simp only [actR]; rw [if_neg hval]
    have HSP := Lib.hid hspec
    clear hspec hcells hval
    go_enter Tryz.func5, Tryz.ntmps5
    go_wp2_with fail
    refine (check_any _ _ _ _ _ ((HV.out.below (((Below.refl _ _).alloc (Nat.le_refl _) _).alloc (by simp) _)).mono (by simp; omega))).mono ?_
    rintro e w1 ⟨rfl, hb1⟩
    have HB1 := Lib.hid hb1
    obtain ⟨hc1, hf1⟩ := bcell hb1
    have hz1 : w.heap.size + 1 < w1.heap.size := by have := hb1.size; simp at this; omega
    have hz0 : w.heap.size < w1.heap.size := by omega
    clear hb1
    go_wp2_with fail
    refine bodyPost_ret (v := .tuple #[.agg #[.int .i64 0, .string ⟨#[]⟩, .slice none 0 0], .int .i64 260]) (by simp [results, Tryz.results5, go_sem, *]) rfl ?_
    refine ⟨none, 0, by rw [HSP.out], ?_⟩
    refine Below.setCell (Below.setCell (Below.setCell ?_ (by simp) _) (by simp) _) (by simp) _
    exact (((Below.refl _ _).alloc (Nat.le_refl _) _).alloc (by simp) _).trans (HB1.out.mono (by simp; omega))
end Go.Proofs.YtinkdjeanjhkbaaGreatDoor
