/-
  The walk of the reference's Act.
-/
import Derived.Test.YtinkdjeanjhkbaaGreatDoorYG
import Derived.Test.YtinkdjeanjhkbaaGreatDoorYC
import Derived.Deep.CutRange
import Derived.Deep.RegionLaw
namespace Go.Proofs.YtinkdjeanjhkbaaGreatDoor
open Go.RowKit
attribute [local go_sem] size_mkB

set_option maxHeartbeats 25600000 in
set_option maxRecDepth 100000 in
theorem ract_any (r : Rib) (v lv : Value) (l : List RAct) (w : World) (hv : ActsIn w.heap.size w v r.acts) (hl : ActsIn w.heap.size w lv l) :
    Calls Tryz.prog 6 #[.agg #[.int .i64 r.room, .string r.fast, v], lv] w (RibOut 260 (actR r l) w) := by
  have HV := Lib.hid hv
  obtain ⟨A, cap, rfl, hc, ⟨hcm, hcl⟩, hcells⟩ := hl
  clear hcm
  obtain ⟨Av, cv, rfl, -, -, -⟩ := hv
  have hB0 : Below w.heap.size w ((w.alloc (Obj.cells #[Value.int IntKind.i64 r.room, Value.string r.fast, .slice Av r.acts.length cv] 24)).alloc (Obj.cells #[Value.int IntKind.i64 0, Value.string { data := #[] }, Value.slice none 0 0] 24)) := ((Below.refl _ _).alloc (Nat.le_refl _) _).alloc (by simp) _
  have HV0 := Lib.hid ((HV.out.below hB0).mono (B' := ((w.alloc (Obj.cells #[Value.int IntKind.i64 r.room, Value.string r.fast, .slice Av r.acts.length cv] 24)).alloc (Obj.cells #[Value.int IntKind.i64 0, Value.string { data := #[] }, Value.slice none 0 0] 24)).heap.size) (by simp; omega))
  clear hB0
  by_cases hval : r.valid
  · have hchk : decide (checkR r.room r.fast r.acts = 0) = true := decide_eq_true hval
    have HCHK := Lib.hid hchk
    have hspec : actR r l = actsFrom r l := by simp only [actR]; rw [if_pos hval]
    rw [hspec]
    have HVAL := Lib.hid hval
    clear hspec hval hchk
    go_enter Tryz.func6, Tryz.ntmps6
    go_wp2_with fail
    refine (right_any r.room r.fast _ r.acts _ HV0.out).mono ?_
    rintro e w1 ⟨rfl, hb1⟩
    rw [HCHK.out]
    have HI1 := Lib.hid (RAInv.start HV.out hb1)
    clear hb1
    go_wp2_with fail
    go_loopw [6] (fun i wr => ∃ (k : Nat) (rk : Rib) (Ak : Option Addr) (ck : Nat), k ≤ l.length ∧ i = .int .i64 k ∧ Hid (rk.valid) ∧ Hid (actsFrom r l = actsFrom rk (l.drop k)) ∧ Hid (RAInv w wr rk Ak ck))
      (fun i _ => l.length - (intOf i).toNat)
    case atStart => exact ⟨0, r, Av, cv, Nat.zero_le _, rfl, HVAL.out, rfl, HI1⟩
    case round =>
      obtain ⟨k, rk, Ak, ck, hk, rfl, HVk, HS, HI⟩ := hrel
      obtain ⟨⟨d0, d1, d2⟩, ⟨g0, g1, g2⟩, fd, fg, z0, z1⟩ := HI.out.cells
      by_cases hlt : k < l.length
      · obtain ⟨b, o, rfl, hb, hall⟩ := hcells (by omega)
        obtain ⟨c0, c1, c2, c3⟩ := hall k hlt
        clear hall hcells
        replace c0 := (HI.out.low.cell (p := ⟨b, o + k * 4, none⟩) hb).trans c0
        replace c1 := (HI.out.low.cell (p := ⟨b, o + k * 4 + 1, none⟩) hb).trans c1
        replace c2 := (HI.out.low.cell (p := ⟨b, o + k * 4 + 2, none⟩) hb).trans c2
        replace c3 := (HI.out.low.cell (p := ⟨b, o + k * 4 + 3, none⟩) hb).trans c3
        have hdr := drop_acts l k hlt
        generalize ha : l.getD k zAct = a at c0 c1 c2 c3 hdr
        clear ha
        rw [hdr] at HS
        clear hdr
        have hkI : (k : Int) < (l.length : Int) := by omega
        by_cases hk3 : a.kind = 3
        · have hk3b : (a.kind == 3) = true := by simp [hk3]
          have hst := step_fast rk hk3
          by_cases hok : a.text.toList.isEmpty = true ∧ a.frm = 0 ∧ a.to = 0
          · rw [if_pos hok] at hst
            have HST := Lib.hid hst
            obtain ⟨o1, o2, o3⟩ := hok
            clear hst hk3
            go_wp2_with fail
            obtain ⟨W, hW⟩ : ∃ W, wr.alloc (Obj.cells #[.int .i64 a.kind, .string a.text, .int .i64 0, .int .i64 0] 41) = W := ⟨_, rfl⟩
            rw [hW]
            have HIW := Lib.hid (HI.out.below (w' := W) (by rw [← hW]; exact (Below.refl _ _).alloc (Nat.le_refl _) _))
            clear hW d0 d1 d2 g0 g1 g2 fd fg z0 z1 c0 c1 c2 c3 o1 o2 o3
            obtain ⟨⟨d0, d1, d2⟩, -, fd, -, z0, -⟩ := HIW.out.cells
            have hAct : Hid (∀ w', Below W.heap.size W w' → ActsIn w'.heap.size w' (.slice Ak rk.acts.length ck) rk.acts) := fun w' hB => (HIW.out.acts.below hB).mono hB.size
            obtain ⟨v1, v2, v3, v4, v5, v6⟩ := (valid_iff _ _ _).1 HVk.out
            have hB0 : Hid (Below W.heap.size W W.drew) := (Below.refl _ _).drew
            have hadd : (addedL rk.acts).length ≤ 6000000 := by omega
            have V5 := Lib.hid v5
            have V6 := Lib.hid v6
            clear v4 v5 v6
            go_region_with
              (first
                | (go_at_call 26
                   refine (rkept_any _ _ _ _ _ (hAct.out _ (Hid.out ?_)) ?_ ?_).mono ?_
                   · assumption
                   · exact V5.out
                   · omega
                   rintro e w5 ⟨z, rfl, hz, HZ, hb5⟩
                   obtain ⟨hB5, hc5, hf5⟩ := in_below (by assumption) hb5
                   have k1 := fun (W : World) => cat_run (P := Tryz.prog) (a := z) (b := mkB (addedL rk.acts)) W (by rw [size_mkB]; omega)
                   clear hb5)
                | (go_at_call 27
                   refine (radded_any _ _ _ _ _ (hAct.out _ (Hid.out ?_)) ?_).mono ?_
                   · assumption
                   · omega
                   rintro e w5 ⟨rfl, hb5⟩
                   obtain ⟨hB5, hc5, hf5⟩ := in_below (by assumption) hb5
                   clear hb5))
            all_goals
              go_wp2_with fail
              go_roundw
              case rel => exact ⟨k + 1, fastened rk, none, 0, by omega, by go_num, fastened_valid HVk.out, by simp only [Hid]; rw [HS.out, actsFrom, HST.out], ract_fast HIW (by assumption) (by assumption)⟩
              case measure => simp [intOf]; omega
          · rw [if_neg hok] at hst
            have HST := Lib.hid hst
            have HOK := Lib.hid hok
            clear hst hk3 hok
            go_wp2_with fail
            all_goals first
              | (exfalso; have h := HOK.out; simp_all; done)
              | (refine bodyPost_ret (v := .tuple #[.agg #[.int .i64 0, .string ⟨#[]⟩, .slice none 0 0], .int .i64 260]) (by simp [results, Tryz.results6, go_sem, g0, g1, g2, z1]) rfl ?_
                 refine ⟨none, 0, by rw [HS.out, actsFrom, HST.out], ?_⟩
                 exact (below_set3 HI.out.low (Nat.le_add_right _ 1) _ _ _).alloc (by simp [World.setCell]; omega) _)
        · have hk3b : (a.kind == 3) = false := by simp [hk3]
          have HST := Lib.hid (step_other rk hk3)
          clear hk3
          go_wp2_with fail
          obtain ⟨X, hX⟩ : ∃ X, wr.heap.size = X := ⟨_, rfl⟩
          obtain ⟨W, hW⟩ : ∃ W, wr.alloc (Obj.cells #[.int .i64 a.kind, .string a.text, .int .i64 a.frm, .int .i64 a.to] 41) = W := ⟨_, rfl⟩
          rw [hW, hX]
          have HIW := Lib.hid (HI.out.below (w' := W) (by rw [← hW]; exact (Below.refl _ _).alloc (Nat.le_refl _) _))
          have hxb : W.heap[X]? = some (.cells #[.int .i64 a.kind, .string a.text, .int .i64 a.frm, .int .i64 a.to] 41 (0, 0)) := by rw [← hW, ← hX]; exact heap_alloc_new _ _
          have HXB := Lib.hid hxb
          have hXW : X < W.heap.size := (Array.getElem?_eq_some_iff.1 hxb).1
          clear hW hX hxb d0 d1 d2 g0 g1 g2 fd fg z0 z1 c0 c1 c2 c3
          obtain ⟨⟨d0, d1, d2⟩, -, fd, -, z0, -⟩ := HIW.out.cells
          have x0 : W.cell? ⟨X, 0, none⟩ = some (.int .i64 a.kind) := Lib.cell_of_heap HXB.out 0
          have x1 : W.cell? ⟨X, 1, none⟩ = some (.string a.text) := Lib.cell_of_heap HXB.out 1
          have x2 : W.cell? ⟨X, 2, none⟩ = some (.int .i64 a.frm) := Lib.cell_of_heap HXB.out 2
          have x3 : W.cell? ⟨X, 3, none⟩ = some (.int .i64 a.to) := Lib.cell_of_heap HXB.out 3
          have hAct : Hid (∀ w', Below W.heap.size W w' → ActsIn w'.heap.size w' (.slice Ak rk.acts.length ck) rk.acts) := fun w' hB => (HIW.out.acts.below hB).mono hB.size
          have hlen : rk.acts.length ≤ 6000001 := valid_len HVk.out
          have hsW := HIW.out.size
          go_cut [] (fun wx => ∃ (W' : World) (A' : Option Addr) (c' : Nat), W' = wx ∧ Hid (RAInv w wx { rk with acts := rk.acts ++ [a] } A' c'))
          case first =>
            go_region_law
              ((first
                | (refine step_append_acts (by rfl) (.tmp 47) (.tmp 49) (by rfl) (by rfl) W.heap.size _ (.slice (some ⟨W.heap.size, 0, none⟩) 0 0) 0 [] (by rfl) (own_empty (by omega) (by exact heap_alloc_new _ _)) Ak ck rk.acts (by rfl) (hAct.out _ (by repeat (first | exact Below.refl _ _ | refine Below.drew ?_ | refine Below.alloc ?_ (by simp) _))) (by omega) (by first | (simp; done) | (simp; omega)) ?_
                   intro A5 c5 w5 hown5 hgr5
                   have hb5 : Below W.heap.size W w5 := Below.grown (by repeat (first | exact Below.refl _ _ | refine Below.drew ?_ | refine Below.alloc ?_ (by simp) _)) hgr5 (by first | (simp; done) | (simp; omega)) (fun g h => by simp [Value.ownBlock] at h; omega)
                   rw [Nat.zero_add, List.nil_append] at hown5
                   have HO5r := Lib.hid hown5
                   have HB5 := Lib.hid hb5
                   have hs5 := hb5.size
                   have y0 := ((bcell hb5).1 X 0 hXW).trans x0
                   have y1 := ((bcell hb5).1 X 1 hXW).trans x1
                   have y2 := ((bcell hb5).1 X 2 hXW).trans x2
                   have y3 := ((bcell hb5).1 X 3 hXW).trans x3
                   clear hown5 hgr5 hb5)
                | (refine step_append_acts (by rfl) (.tmp 47) (.tmp 49) (by rfl) (by rfl) W.heap.size _ (.slice (some ⟨W.heap.size, 0, none⟩) 0 0) 0 [] (by rfl) (own_empty (by omega) (by show (World.alloc (World.alloc W _) _).heap[W.heap.size]? = _; exact (Below.heap_alloc _ _ _ (by simp)).trans (heap_alloc_new _ _))) Ak ck rk.acts (by rfl) (hAct.out _ (by repeat (first | exact Below.refl _ _ | refine Below.drew ?_ | refine Below.alloc ?_ (by simp) _))) (by omega) (by first | (simp; done) | (simp; omega)) ?_
                   intro A5 c5 w5 hown5 hgr5
                   have hb5 : Below W.heap.size W w5 := Below.grown (by repeat (first | exact Below.refl _ _ | refine Below.drew ?_ | refine Below.alloc ?_ (by simp) _)) hgr5 (by first | (simp; done) | (simp; omega)) (fun g h => by simp [Value.ownBlock] at h; omega)
                   have hx5 : Hid (w5.heap[W.heap.size + 1]? = some (.cells #[.int .i64 a.kind, .string a.text, .int .i64 a.frm, .int .i64 a.to] 41 (0, 0))) := (hgr5.block (W.heap.size + 1) (by first | (simp; done) | (simp; omega)) (by simp [Value.ownBlock])).trans (by show (World.alloc (World.alloc W _) _).heap[W.heap.size + 1]? = _; simpa using heap_alloc_new (W.alloc _) _)
                   rw [Nat.zero_add, List.nil_append] at hown5
                   have HO5r := Lib.hid hown5
                   have HB5 := Lib.hid hb5
                   have hs5 := hb5.size
                   have y0 := ((bcell hb5).1 X 0 hXW).trans x0
                   have y1 := ((bcell hb5).1 X 1 hXW).trans x1
                   have y2 := ((bcell hb5).1 X 2 hXW).trans x2
                   have y3 := ((bcell hb5).1 X 3 hXW).trans x3
                   clear hown5 hgr5 hb5)
                | (refine step_append_acts (by rfl) (.tmp 47) (.tmp 49) (by rfl) (by rfl) W.heap.size _ (.slice (some ⟨W.heap.size + 1, 0, none⟩) 0 0) 0 [] (by rfl) (own_empty (by omega) (by show (World.alloc (World.alloc W _) _).heap[W.heap.size + 1]? = _; simpa using heap_alloc_new (W.alloc _) _)) Ak ck rk.acts (by rfl) (hAct.out _ (by repeat (first | exact Below.refl _ _ | refine Below.drew ?_ | refine Below.alloc ?_ (by simp) _))) (by omega) (by first | (simp; done) | (simp; omega)) ?_
                   intro A5 c5 w5 hown5 hgr5
                   have hb5 : Below W.heap.size W w5 := Below.grown (by repeat (first | exact Below.refl _ _ | refine Below.drew ?_ | refine Below.alloc ?_ (by simp) _)) hgr5 (by first | (simp; done) | (simp; omega)) (fun g h => by simp [Value.ownBlock] at h; omega)
                   have hx5 : Hid (w5.heap[W.heap.size]? = some (.cells #[.int .i64 a.kind, .string a.text, .int .i64 a.frm, .int .i64 a.to] 41 (0, 0))) := (hgr5.block (W.heap.size) (by first | (simp; done) | (simp; omega)) (by simp [Value.ownBlock])).trans (by show (World.alloc (World.alloc W _) _).heap[W.heap.size]? = _; exact (Below.heap_alloc _ _ _ (by simp)).trans (heap_alloc_new _ _))
                   rw [Nat.zero_add, List.nil_append] at hown5
                   have HO5r := Lib.hid hown5
                   have HB5 := Lib.hid hb5
                   have hs5 := hb5.size
                   have y0 := ((bcell hb5).1 X 0 hXW).trans x0
                   have y1 := ((bcell hb5).1 X 1 hXW).trans x1
                   have y2 := ((bcell hb5).1 X 2 hXW).trans x2
                   have y3 := ((bcell hb5).1 X 3 hXW).trans x3
                   clear hown5 hgr5 hb5)
                | (refine step_append_acts (by rfl) (.tmp 50) (.tmp 52) (by rfl) (by rfl) W.heap.size _ (.slice A5 rk.acts.length c5) rk.acts.length (actCells rk.acts) (by rfl) (HO5r.out.alloc _) (some ⟨w5.heap.size, 0, none⟩) 1 [a] (by rfl) (one_act (by exact heap_alloc_new _ _)) (by simp; omega) (by first | exact hs5 | (simp; omega)) ?_
                   intro A6 c6 w6 hown6 hgr6
                   have hb6 : Below W.heap.size W w6 := Below.grown (by repeat (first | exact HB5.out | refine Below.drew ?_ | refine Below.alloc ?_ (by first | exact hs5 | simp) _)) hgr6 (by first | exact hs5 | (simp; omega)) (fun g h => (HO5r.out.lt g h).1)
                   have HB6 := Lib.hid hb6
                   have HO6 := Lib.hid hown6
                   have hf6 : ∀ j, w6.frozen? ⟨w.heap.size, j, none⟩ = false := fun j => ((bcell hb6).2 w.heap.size j z0).trans (fd j)
                   have hz6 : w.heap.size < w6.heap.size := Nat.lt_of_lt_of_le z0 hb6.size
                   have hc6 : w6.cell? ⟨w.heap.size, 2, none⟩ = some (.slice Ak rk.acts.length ck) := ((bcell hb6).1 w.heap.size 2 z0).trans d2
                   clear hown6 hgr6 hb6)
                | (refine step_append_acts (by rfl) (.tmp 50) (.tmp 52) (by rfl) (by rfl) W.heap.size _ (.slice A5 rk.acts.length c5) rk.acts.length (actCells rk.acts) (by rfl) HO5r.out (some ⟨W.heap.size + 1, 0, none⟩) 1 [a] (by rfl) (one_act (by exact hx5.out)) (by simp; omega) (by first | exact hs5 | (simp; omega)) ?_
                   intro A6 c6 w6 hown6 hgr6
                   have hb6 : Below W.heap.size W w6 := Below.grown (by repeat (first | exact HB5.out | refine Below.drew ?_ | refine Below.alloc ?_ (by first | exact hs5 | simp) _)) hgr6 (by first | exact hs5 | (simp; omega)) (fun g h => (HO5r.out.lt g h).1)
                   have HB6 := Lib.hid hb6
                   have HO6 := Lib.hid hown6
                   have hf6 : ∀ j, w6.frozen? ⟨w.heap.size, j, none⟩ = false := fun j => ((bcell hb6).2 w.heap.size j z0).trans (fd j)
                   have hz6 : w.heap.size < w6.heap.size := Nat.lt_of_lt_of_le z0 hb6.size
                   have hc6 : w6.cell? ⟨w.heap.size, 2, none⟩ = some (.slice Ak rk.acts.length ck) := ((bcell hb6).1 w.heap.size 2 z0).trans d2
                   clear hown6 hgr6 hb6)
                | (refine step_append_acts (by rfl) (.tmp 50) (.tmp 52) (by rfl) (by rfl) W.heap.size _ (.slice A5 rk.acts.length c5) rk.acts.length (actCells rk.acts) (by rfl) HO5r.out (some ⟨W.heap.size, 0, none⟩) 1 [a] (by rfl) (one_act (by exact hx5.out)) (by simp; omega) (by first | exact hs5 | (simp; omega)) ?_
                   intro A6 c6 w6 hown6 hgr6
                   have hb6 : Below W.heap.size W w6 := Below.grown (by repeat (first | exact HB5.out | refine Below.drew ?_ | refine Below.alloc ?_ (by first | exact hs5 | simp) _)) hgr6 (by first | exact hs5 | (simp; omega)) (fun g h => (HO5r.out.lt g h).1)
                   have HB6 := Lib.hid hb6
                   have HO6 := Lib.hid hown6
                   have hf6 : ∀ j, w6.frozen? ⟨w.heap.size, j, none⟩ = false := fun j => ((bcell hb6).2 w.heap.size j z0).trans (fd j)
                   have hz6 : w.heap.size < w6.heap.size := Nat.lt_of_lt_of_le z0 hb6.size
                   have hc6 : w6.cell? ⟨w.heap.size, 2, none⟩ = some (.slice Ak rk.acts.length ck) := ((bcell hb6).1 w.heap.size 2 z0).trans d2
                   clear hown6 hgr6 hb6)
                | fail))
            all_goals
              go_wp2_with fail
              go_meet
              exact ⟨_, _, _, rfl, ract_row HIW (by assumption) (by assumption)⟩
          case rest =>
            obtain ⟨W', A', c', rfl, HI'⟩ := hcut
            clear d0 d1 d2 fd z0 x0 x1 x2 x3
            obtain ⟨⟨d0, d1, d2⟩, -, -, -, z0, -⟩ := HI'.out.cells
            have hal : (rk.acts ++ [a]).length = rk.acts.length + 1 := by simp
            have hacts := HI'.out.acts
            simp only at d0 d1 d2 hacts
            rw [hal] at d2 hacts
            have HACTS := Lib.hid hacts
            clear hal hacts
            by_cases hv : ({ rk with acts := rk.acts ++ [a] } : Rib).valid
            · have hck : decide (checkR rk.room rk.fast (rk.acts ++ [a]) = 0) = true := decide_eq_true hv
              have HCK := Lib.hid hck
              have HV6 := Lib.hid hv
              clear hv hck
              go_wp2_with fail
              refine (right_any rk.room rk.fast _ (rk.acts ++ [a]) _ HACTS.out).mono ?_
              rintro e w6 ⟨rfl, hb6⟩
              rw [HCK.out]
              have HI6 := Lib.hid (HI'.out.below hb6)
              clear hb6 d0 d1 d2 z0
              go_wp2_with fail
              go_roundw
              case rel => exact ⟨k + 1, { rk with acts := rk.acts ++ [a] }, A', c', by omega, by go_num, HV6.out, by simp only [Hid]; rw [HS.out, actsFrom, HST.out, if_pos HV6.out], HI6⟩
              case measure => simp [intOf]; omega
            · have hck : decide (checkR rk.room rk.fast (rk.acts ++ [a]) = 0) = false := decide_eq_false hv
              have HCK := Lib.hid hck
              have HV6 := Lib.hid hv
              clear hv hck
              go_wp2_with fail
              refine (right_any rk.room rk.fast _ (rk.acts ++ [a]) _ HACTS.out).mono ?_
              rintro e w6 ⟨rfl, hb6⟩
              rw [HCK.out]
              have HI6 := Lib.hid (HI'.out.below hb6)
              clear hb6 d0 d1 d2 z0
              obtain ⟨-, ⟨g0, g1, g2⟩, -, g3, -, -⟩ := HI6.out.cells
              go_wp2_with fail
              refine bodyPost_ret (v := .tuple #[.agg #[.int .i64 0, .string ⟨#[]⟩, .slice none 0 0], .int .i64 260]) (by simp [results, Tryz.results6, go_sem, g0, g1, g2]) rfl ?_
              refine ⟨none, 0, by rw [HS.out, actsFrom, HST.out, if_neg HV6.out], ?_⟩
              exact below_set3 HI6.out.low (Nat.le_add_right _ 1) _ _ _
      · clear hcells
        go_wp2_with fail
        refine bodyPost_ret (v := .tuple #[.agg #[.int .i64 rk.room, .string rk.fast, .slice Ak rk.acts.length ck], .int .i64 0]) (by simp [results, Tryz.results6, go_sem, g0, g1, g2]) rfl ?_
        refine ⟨Ak, ck, ?_, ?_⟩
        · rw [HS.out, List.drop_of_length_le (by omega)]
          exact ⟨acts_set3 HI.out.acts HI.out.res (by simp) _ _ _, rfl⟩
        · exact Below.setCell (Below.setCell (Below.setCell HI.out.low (by simp) _) (by simp) _) (by simp) _
  · have hchk : decide (checkR r.room r.fast r.acts = 0) = false := decide_eq_false hval
    have HCHK := Lib.hid hchk
    have hspec : actR r l = none := by simp only [actR]; rw [if_neg hval]
    have HSP := Lib.hid hspec
    clear hspec hcells hval hchk
    go_enter Tryz.func6, Tryz.ntmps6
    go_wp2_with fail
    refine (right_any r.room r.fast _ r.acts _ HV0.out).mono ?_
    rintro e w1 ⟨rfl, hb1⟩
    rw [HCHK.out]
    have HI1 := Lib.hid (RAInv.start HV.out hb1)
    clear hb1
    obtain ⟨-, ⟨g0, g1, g2⟩, -, g3, -, -⟩ := HI1.out.cells
    go_wp2_with fail
    refine bodyPost_ret (v := .tuple #[.agg #[.int .i64 0, .string ⟨#[]⟩, .slice none 0 0], .int .i64 260]) (by simp [results, Tryz.results6, go_sem, g0, g1, g2]) rfl ?_
    refine ⟨none, 0, by rw [HSP.out], ?_⟩
    exact Below.setCell (Below.setCell (Below.setCell HI1.out.low (by simp) _) (by simp) _) (by simp) _
end Go.Proofs.YtinkdjeanjhkbaaGreatDoor
