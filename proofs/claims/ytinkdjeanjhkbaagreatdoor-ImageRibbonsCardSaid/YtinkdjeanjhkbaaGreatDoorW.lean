/-
  The walk of Words's closure at the first text of the examples.
-/
import Derived.Test.YtinkdjeanjhkbaaGreatDoorV
namespace Go.Proofs.YtinkdjeanjhkbaaGreatDoor
open Go.RowKit
attribute [local go_sem] size_mkB

def T1 : ByteArray := ⟨#[51, 58, 97, 32, 98, 32, 49, 50, 32]⟩
def T2 : ByteArray := ⟨#[48, 49, 50, 32]⟩

theorem ascii_of {s : ByteArray} (h : (s.data.toList.all fun b => decide (b.toNat < 128)) = true) : ∀ (j : Nat) b, s.data.toList[j]? = some b → b.toNat < 128 := by
  intro j b hb
  have := List.all_eq_true.1 h b (List.mem_of_getElem? hb)
  simpa using this

theorem isNum12 (w : World) : Calls Tryz.prog 36 #[.string ⟨#[49, 50]⟩] w fun e w' => e = .returned (.bool true) ∧ w' = w := by
  refine (isNumber_some ⟨#[49, 50]⟩ ⟨#[49, 50]⟩ w rfl (by decide) (by decide) (fun j h => ?_)).mono ?_
  · have h' : j < 2 := h
    have : j = 0 ∨ j = 1 := by omega
    rcases this with rfl | rfl
    · show 48 ≤ UInt8.toNat 49 ∧ UInt8.toNat 49 ≤ 57; decide
    · show 48 ≤ UInt8.toNat 50 ∧ UInt8.toNat 50 ≤ 57; decide
  · rintro e w' ⟨rfl, rfl⟩
    exact ⟨rfl, rfl⟩

theorem itoa3 : mkB (Lib.itoa 3) = ⟨#[51]⟩ := by
  have : Lib.itoa 3 = [51] := by
    unfold Lib.itoa
    rw [if_neg (by decide)]
    simp [Lib.decDigits]
  rw [this]; rfl

noncomputable def curLeft (g : Nat) (W : World) : Nat := match W.cell? ⟨g, 1, none⟩ with
  | some (.int _ k) => (9 - k).toNat
  | _ => 0
theorem curLeft_eq {g : Nat} {W : World} {T : ByteArray} {k : Int} (h : W.heap[g]? = some (.cells #[.string T, .int .i64 k] 58 (0, 0))) : curLeft g W = (9 - k).toNat := by
  unfold curLeft
  rw [Lib.cell_of_heap h 1]; rfl

theorem G.below' {w w' : World} {B oc : Nat} (h : G w) (hb : SoleB B oc w w') (hoc : 6 ≤ oc) (hB : 6 ≤ B) : G w' :=
  h.below (⟨hb.os, hb.tape, hb.output, hb.size, fun k hk => hb.block k (by omega) (by omega)⟩ : Below 6 w w') (by omega)

set_option maxHeartbeats 3200000 in
set_option maxRecDepth 100000 in
theorem words1_any (w : World) (tc oc : Nat) (ht : tc < w.heap.size) (ho : oc < w.heap.size) (hto : tc ≠ oc) (hG : G w) (htx : w.heap[tc]? = some (.cells #[.string T1] 9 (0, 0))) (hout : w.heap[oc]? = some (.cells #[.slice none 0 0] 37 (0, 0))) (hoc : 6 ≤ oc) :
    Calls Tryz.prog 32 #[.pointer (some ⟨tc, 0, none⟩), .pointer (some ⟨oc, 0, none⟩)] w fun e w' => e = .returned (.tuple #[]) ∧ SoleB w.heap.size oc w w' ∧
      ∃ A c, w'.heap[oc]? = some (.cells #[.slice A 2 c] 37 (0, 0)) ∧ w'.ownsRow (w.heap.size + 1) 9 1 (.slice A 2 c) 2 [.string ⟨#[97, 32, 98]⟩, .string ⟨#[49, 50]⟩] := by
  obtain ⟨T, hT⟩ : ∃ T, T = T1 := ⟨_, rfl⟩
  rw [← hT] at htx
  have hTs : T.size = 9 := by rw [hT]; rfl
  have HT := Lib.hid hT
  have HTX := Lib.hid htx
  have tx0 : w.cell? ⟨tc, 0, none⟩ = some (.string T) := Lib.cell_of_heap htx 0
  have HOUT := Lib.hid hout
  clear hT htx hout
  go_enter Tryz.func32, Tryz.ntmps32
  go_wp2
  go_loopw [] (fun wr => ∃ (k : Int) (xs : List ByteArray), ((k = 0 ∧ xs = []) ∨ (k = 6 ∧ xs = [⟨#[97, 32, 98]⟩]) ∨ (k = 9 ∧ xs = [⟨#[97, 32, 98]⟩, ⟨#[49, 50]⟩])) ∧ Hid (WInv w tc oc T k xs wr)) (fun wr => curLeft w.heap.size wr)
  case atStart =>
    refine ⟨0, [], .inl ⟨rfl, rfl⟩, heap_alloc_new _ _, (Below.heap_alloc _ _ _ ht).trans HTX.out, ⟨none, 0, (Below.heap_alloc _ _ _ ho).trans HOUT.out, World.ownsRow_nil _ _ _ _⟩, SoleB.of_below ((Below.refl _ _).alloc (Nat.le_refl _) _) (Nat.le_refl _), by simp⟩
  case round =>
    obtain ⟨k, xs, hkx, HI⟩ := hrel
    have c0 : wr.cell? ⟨w.heap.size, 0, none⟩ = some (.string T) := Lib.cell_of_heap HI.out.cur 0
    have c1 : wr.cell? ⟨w.heap.size, 1, none⟩ = some (.int .i64 k) := Lib.cell_of_heap HI.out.cur 1
    have t0 : wr.cell? ⟨tc, 0, none⟩ = some (.string T) := Lib.cell_of_heap HI.out.tx 0
    rcases hkx with ⟨rfl, rfl⟩ | ⟨rfl, rfl⟩ | ⟨rfl, rfl⟩
    · -- the first word: 3:a b
      obtain ⟨X, hX⟩ : ∃ X, X = T.extract 0 T.size := ⟨_, rfl⟩
      have hXs : X = ⟨#[51, 58, 97, 32, 98, 32, 49, 50, 32]⟩ := by rw [hX, HT.out]; rfl
      have s6 : ∀ W : World, (Instr.slice 9 (.string T) (some (.int .i64 0)) none none).run Tryz.prog W = .ok (.string X) W := fun W => by rw [hX]; exact slice_from T 0 (by omega) W
      have hia : ∀ W : World, Calls Tryz.prog 33 #[.string X, .string ⟨#[58, 32]⟩] W fun e w' => e = .returned (.int .i64 1) ∧ Below W.heap.size W w' := fun W => by
        have := indexAny_some X W (by rw [hXs]; decide) (ascii_of (by rw [hXs]; rfl))
        rw [show Lib.indexAny (bl X) [58, 32] = 1 by rw [hXs]; rfl] at this
        exact this
      have HIA := Lib.hid hia
      have hix : ∀ W : World, (Instr.index 9 (.string T) (.int .i64 1)).run Tryz.prog W = .ok (.int .u8 58) W := by
        intro W
        rw [run_index_string W 9 T .i64 _ Tryz.underlying9, dif_pos (by omega)]
        simp only [HT.out]; rfl
      have hun : Lib.indexByte ((bl T).drop 0) 58 = ((1 : Nat) : Int) := by rw [HT.out]; rfl
      have HUN := Lib.hid hun
      have hY : T.extract 0 (0 + 1) = ⟨#[51]⟩ := by rw [HT.out]; rfl
      have HY := Lib.hid hY
      have hZ : T.extract 2 (2 + 3) = ⟨#[97, 32, 98]⟩ := by rw [HT.out]; rfl
      have HZ := Lib.hid hZ
      have hg5 : T[2 + 3]'(by omega) = 32 := by simp only [HT.out]; rfl
      have HG5 := Lib.hid hg5
      have hit : mkB (Lib.itoa 3) = ⟨#[51]⟩ := itoa3
      have h9 : ((T.size : Nat) : Int) = 9 := by omega
      clear hX hXs hia hun hY hZ hg5
      go_wp2_with fail
      go_quiet (fail)
      go_wp2_with fail
      have hzr : w.heap.size < wr.heap.size := HI.out.size
      go_region_held3 (fun w' => w'.cell? ⟨w.heap.size, 1, none⟩ = some (.int .i64 0) ∧ w'.cell? ⟨tc, 0, none⟩ = some (.string T))
        (first | go_keep | exact ⟨by simp [c1], by simp [t0]⟩ | (refine ⟨?_, ?_⟩ <;> (rw [(bcell hb1).1 _ _ (by simp; omega)]; simp [c1, t0])))
        (first | (go_at_call 33; refine (HIA.out _).mono ?_; rintro e w1 ⟨rfl, hb1⟩))
      have HI1 := Lib.hid (HI.out.below ht ho (w1 := w1) (((below_drewN' (k := nq) (Below.refl _ wr)).drew).trans hb1))
      clear hb1 c0 c1 t0
      have c0 : w1.cell? ⟨w.heap.size, 0, none⟩ = some (.string T) := Lib.cell_of_heap HI1.out.cur 0
      have c1 : w1.cell? ⟨w.heap.size, 1, none⟩ = some (.int .i64 0) := Lib.cell_of_heap HI1.out.cur 1
      have t0 : w1.cell? ⟨tc, 0, none⟩ = some (.string T) := Lib.cell_of_heap HI1.out.tx 0
      go_wp2_with (go_at_call 34; refine (must_true _ _).mono ?_; rintro e w' ⟨rfl, hw'⟩; obtain rfl := hw'.symm)
      go_quiet (fail)
      have HI2 := Lib.hid (HI1.out.below ht ho (w1 := w1.drewN nq) (below_drewN' (Below.refl _ w1)))
      generalize hW2 : w1.drewN nq = w2 at HI2 ⊢
      clear hW2 c0 c1 t0
      go_wp2_with fail
      refine (until_any w.heap.size T 0 1 58 _ HI2.out.cur (by omega) (by omega) HUN.out).mono ?_
      rintro e w3 ⟨rfl, hc3, hs3⟩
      rw [HY.out]
      have HI3 := Lib.hid (HI2.out.sole ht ho hs3 (k' := 2) hc3)
      clear hc3 hs3
      go_wp2_with fail
      refine (atoi_ok ⟨#[51]⟩ _ (by decide) 3 (by decide)).mono ?_
      rintro e w4 ⟨rfl, hb4⟩
      have HI4 := Lib.hid (HI3.out.below ht ho hb4)
      clear hb4
      go_wp2_with fail
      refine (itoa_any 3 (by decide) (by decide) _ (hG.below' HI4.out.keeps hoc (by omega))).mono ?_
      rintro e w5 ⟨rfl, hb5⟩
      rw [hit]
      have HI5 := Lib.hid (HI4.out.below ht ho hb5)
      clear hb5
      go_wp2_with (go_at_call 34; refine (must_true _ _).mono ?_; rintro e w' ⟨rfl, hw'⟩; obtain rfl := hw'.symm)
      obtain ⟨Ao, co, hao, hro⟩ := HI5.out.out
      have HAO := Lib.hid hao
      have HRO := Lib.hid hro
      clear hao hro
      have o0 : w5.cell? ⟨oc, 0, none⟩ = some (.slice Ao 0 co) := Lib.cell_of_heap HAO.out 0
      have of := Lib.frozen_of_heap HAO.out
      have hz5 : w.heap.size < w5.heap.size := HI5.out.size
      have ho5 : oc < w5.heap.size := by omega
      obtain ⟨i0, hi0, hz0, hz1', hz2'⟩ := info_parts infoStr
      have hby : Calls Tryz.prog 39 #[.pointer (some ⟨w.heap.size, 0, none⟩), .int .i64 3] w5.drew fun e w6 => e = .returned (.string ⟨#[97, 32, 98]⟩) ∧ WInv w tc oc T 6 [] w6 ∧ w6.heap[oc]? = some (.cells #[.slice Ao 0 co] 37 (0, 0)) ∧
          w6.ownsRow (w.heap.size + 1) 9 1 (.slice Ao 0 co) 0 [] := by
        refine (bytes2_any w.heap.size T 2 3 w5.drew HI5.out.cur (by omega) (by omega) HG5.out).mono ?_
        rintro e w6 ⟨rfl, hc6, hs6⟩
        rw [HZ.out]
        have h5d := HI5.out.below ht ho (w1 := w5.drew) (Below.refl _ w5).drew
        refine ⟨rfl, h5d.sole ht ho hs6 (k' := 6) hc6, (hs6.block oc (by omega)).trans HAO.out, HRO.out.1, ?_⟩
        rcases HRO.out.2 with e | ⟨g, cap, cur, e, hg, hh, r⟩
        · exact Or.inl e
        · exact Or.inr ⟨g, cap, cur, e, hg, by rw [hs6.block g (by omega)]; exact hh, r⟩
      have HBY := Lib.hid hby
      clear hby
      go_region_law (first
        | (refine step_call rfl ?_
           go_simp
           go_at_call 39
           refine HBY.out.mono ?_
           rintro e w6 ⟨rfl, hi6, hao6, hro6⟩
           have HI6 := Lib.hid hi6
           have HAO6 := Lib.hid hao6
           have HRO6 := Lib.hid hro6
           clear hi6 hao6 hro6
           have hz6 : w.heap.size < w6.heap.size := HI6.out.size
           have ho6 : oc < w6.heap.size := Nat.lt_trans ho hz6
           have o6 : w6.cell? ⟨oc, 0, none⟩ = some (.slice Ao 0 co) := Lib.cell_of_heap HAO6.out 0
           have of6 := Lib.frozen_of_heap HAO6.out)
        | (refine step_append_own rfl (.tmp 65) (.tmp 69) 37 rfl (w.heap.size + 1) 9 i0 _ 1 16 Tryz.underlying37 hi0 hz0 hz1' hz2' rfl (by decide) _ _ _ rfl (HRO6.out.alloc _) ⟨w6.heap.size, 0, none⟩ 1 1 [.string ⟨#[97, 32, 98]⟩] rfl rfl
             (fun j u hu => by rw [addr_add, Nat.zero_add, World.cell?_alloc_new]; simpa using hu) (fun u hu => by simp at hu; subst hu; rfl) (by simp [maxLen]) (by simp) (by simp; omega) ?_
           intro A7 c7 w7 hown7 hgr7
           have HI8 : Hid (WInv w tc oc T 6 [⟨#[97, 32, 98]⟩] (w7.setCell ⟨oc, 0, none⟩ (.slice A7 1 c7))) := HI6.out.app ht ho hto HAO6.out _ hown7 hgr7
           have ho7 : w7.heap[oc]? = some (.cells #[.slice Ao 0 co] 37 (0, 0)) := by
             rw [hgr7.block oc (by simp; omega) (fun e => by have := (HRO6.out.lt oc e.symm).1; omega), Below.heap_alloc _ _ _ ho6]; exact HAO6.out
           have o7 : w7.cell? ⟨oc, 0, none⟩ = some (.slice Ao 0 co) := Lib.cell_of_heap ho7 0
           have of7 := Lib.frozen_of_heap ho7
           clear ho7 hown7 hgr7 o6 of6))
      all_goals
        go_wp2_with fail
        go_roundw
        case rel => exact ⟨6, _, .inr (.inl ⟨rfl, rfl⟩), HI8⟩
        case measure => rw [curLeft_eq HI8.out.cur, curLeft_eq HI.out.cur]; decide
    · -- the second word: 12
      obtain ⟨X, hX⟩ : ∃ X, X = T.extract 6 T.size := ⟨_, rfl⟩
      have hXs : X = ⟨#[49, 50, 32]⟩ := by rw [hX, HT.out]; rfl
      have s6 : ∀ W : World, (Instr.slice 9 (.string T) (some (.int .i64 6)) none none).run Tryz.prog W = .ok (.string X) W := fun W => by rw [hX]; exact slice_from T 6 (by omega) W
      have hia : ∀ W : World, Calls Tryz.prog 33 #[.string X, .string ⟨#[58, 32]⟩] W fun e w' => e = .returned (.int .i64 2) ∧ Below W.heap.size W w' := fun W => by
        have := indexAny_some X W (by rw [hXs]; decide) (ascii_of (by rw [hXs]; rfl))
        rw [show Lib.indexAny (bl X) [58, 32] = 2 by rw [hXs]; rfl] at this
        exact this
      have HIA := Lib.hid hia
      have hix : ∀ W : World, (Instr.index 9 (.string T) (.int .i64 8)).run Tryz.prog W = .ok (.int .u8 32) W := by
        intro W
        rw [run_index_string W 9 T .i64 _ Tryz.underlying9, dif_pos (by omega)]
        simp only [HT.out]; rfl
      have hun : Lib.indexByte ((bl T).drop 6) 32 = ((2 : Nat) : Int) := by rw [HT.out]; rfl
      have HUN := Lib.hid hun
      have hY : T.extract 6 (6 + 2) = ⟨#[49, 50]⟩ := by rw [HT.out]; rfl
      have HY := Lib.hid hY
      have h9 : ((T.size : Nat) : Int) = 9 := by omega
      clear hX hXs hia hun hY
      go_wp2_with fail
      go_quiet (fail)
      go_wp2_with fail
      have hzr : w.heap.size < wr.heap.size := HI.out.size
      go_region_held3 (fun w' => w'.cell? ⟨w.heap.size, 1, none⟩ = some (.int .i64 6) ∧ w'.cell? ⟨tc, 0, none⟩ = some (.string T))
        (first | go_keep | exact ⟨by simp [c1], by simp [t0]⟩ | (refine ⟨?_, ?_⟩ <;> (rw [(bcell hb1).1 _ _ (by simp; omega)]; simp [c1, t0])))
        (first | (go_at_call 33; refine (HIA.out _).mono ?_; rintro e w1 ⟨rfl, hb1⟩))
      have HI1 := Lib.hid (HI.out.below ht ho (w1 := w1) (((below_drewN' (k := nq) (Below.refl _ wr)).drew).trans hb1))
      clear hb1 c0 c1 t0
      have c0 : w1.cell? ⟨w.heap.size, 0, none⟩ = some (.string T) := Lib.cell_of_heap HI1.out.cur 0
      have c1 : w1.cell? ⟨w.heap.size, 1, none⟩ = some (.int .i64 6) := Lib.cell_of_heap HI1.out.cur 1
      have t0 : w1.cell? ⟨tc, 0, none⟩ = some (.string T) := Lib.cell_of_heap HI1.out.tx 0
      go_wp2_with (go_at_call 34; refine (must_true _ _).mono ?_; rintro e w' ⟨rfl, hw'⟩; obtain rfl := hw'.symm)
      go_quiet (fail)
      have HI2 := Lib.hid (HI1.out.below ht ho (w1 := w1.drewN nq) (below_drewN' (Below.refl _ w1)))
      generalize hW2 : w1.drewN nq = w2 at HI2 ⊢
      clear hW2 c0 c1 t0
      go_wp2_with fail
      refine (until_any w.heap.size T 6 2 32 _ HI2.out.cur (by omega) (by omega) HUN.out).mono ?_
      rintro e w3 ⟨rfl, hc3, hs3⟩
      rw [HY.out]
      have HI3 := Lib.hid (HI2.out.sole ht ho hs3 (k' := 9) hc3)
      clear hc3 hs3
      go_wp2_with (go_at_call 36; refine (isNum12 _).mono ?_; rintro e w4 ⟨rfl, hw'⟩; obtain rfl := hw'.symm)
      obtain ⟨Ao, co, hao, hro⟩ := HI3.out.out
      have HAO := Lib.hid hao
      have HRO := Lib.hid hro
      clear hao hro
      have o0 : w3.cell? ⟨oc, 0, none⟩ = some (.slice Ao 1 co) := Lib.cell_of_heap HAO.out 0
      have of := Lib.frozen_of_heap HAO.out
      have hz3 : w.heap.size < w3.heap.size := HI3.out.size
      have ho3 : oc < w3.heap.size := by omega
      obtain ⟨i0, hi0, hz0, hz1', hz2'⟩ := info_parts infoStr
      go_wp2_with (first
        | (go_at_call 34; refine (must_true _ _).mono ?_; rintro e w' ⟨rfl, hw'⟩; obtain rfl := hw'.symm)
        | (at_builtin; refine wpList_append_own _ rfl _ _ 37 rfl (w.heap.size + 1) 9 i0 _ 1 16 Tryz.underlying37 hi0 hz0 hz1' hz2' rfl (by decide) _ _ _ rfl (HRO.out.alloc _) ⟨w3.heap.size, 0, none⟩ 1 1 [.string ⟨#[49, 50]⟩] rfl ?c1 ?c2 ?c3 ?c4 ?c5 ?c6 ?_))
      case c1 => rfl
      case c2 => exact fun j u hu => by rw [addr_add, Nat.zero_add, World.cell?_alloc_new]; simpa using hu
      case c3 => exact fun u hu => by simp at hu; subst hu; rfl
      case c4 => simp [maxLen]
      case c5 => simp
      case c6 => simp; omega
      intro v5 w5 hown5 hgr5 _
      obtain ⟨A5, c5, rfl⟩ := own_form hown5
      have ho5 : w5.heap[oc]? = some (.cells #[.slice Ao 1 co] 37 (0, 0)) := by
        rw [hgr5.block oc (by simp; omega) (fun e => by have := (HRO.out.lt oc e.symm).1; omega), Below.heap_alloc _ _ _ ho3]; exact HAO.out
      have o5 : w5.cell? ⟨oc, 0, none⟩ = some (.slice Ao 1 co) := Lib.cell_of_heap ho5 0
      have of5 := Lib.frozen_of_heap ho5
      have HI6 : Hid (WInv w tc oc T 9 [⟨#[97, 32, 98]⟩, ⟨#[49, 50]⟩] (w5.setCell ⟨oc, 0, none⟩ (.slice A5 2 c5))) := HI3.out.app ht ho hto HAO.out _ hown5 hgr5
      clear ho5 hown5 hgr5 o0 of
      go_wp2_with fail
      go_roundw
      case rel => exact ⟨9, _, .inr (.inr ⟨rfl, rfl⟩), HI6⟩
      case measure => rw [curLeft_eq HI6.out.cur, curLeft_eq HI.out.cur]; decide
    · have h9 : ((T.size : Nat) : Int) = 9 := by omega
      go_wp2_with fail
      go_quiet (fail)
      go_wp2_with fail
      have HI1 := HI.out.below ht ho (w1 := wr.drewN nq) (below_drewN' (Below.refl _ wr))
      exact bodyPost_end (results_none rfl _ _ _) rfl ⟨rfl, HI1.keeps, HI1.out⟩
end Go.Proofs.YtinkdjeanjhkbaaGreatDoor
