/-
  The iterator of image.records.
-/
import Derived.Test.YtinkdjeanjhkbaaGreatDoorI
import Derived.Test.YtinkdjeanjhkbaaGreatDoorJ
import Derived.Shelf.Abstract
import Derived.Shelf.RegionOpen
import Derived.OwnWalkIn
import Derived.TacticsInMore
import Derived.LoopNIn
import Derived.LoopIn
namespace Go.Proofs.YtinkdjeanjhkbaaGreatDoor
open Go.RowKit Go.Shelf
attribute [local go_sem] Oper.semAt_some

abbrev Rec := { p : Int × List UInt8 // (-9223372036854775808 ≤ p.1 ∧ p.1 ≤ 9223372036854775807) ∧ p.2.length ≤ 6000000 }
def Rec.len (x : Rec) : Nat := (bytesL x.1.1 x.1.2).length
def Rec.val (x : Rec) : Value := .agg #[.int .i64 x.1.1, .string (mkB x.1.2), .int .i64 (x.len : Int)]

inductive Recs : List UInt8 → List Rec → List UInt8 → Prop
  | nil (s) : Recs s [] s
  | snoc {s pre s' x} (h : Recs s pre s') (hx : readL s' = some x.1) : Recs s (pre ++ [x]) (s'.drop x.len)

def KpC (Bs : Nat) (W W' : World) : Prop := (∀ k c t f, Bs ≤ k → W.heap[k]? = some (.cells c t f) → W'.heap[k]? = some (.cells c t f)) ∧ Below 6 W W'

noncomputable def strLeft (Bs : Nat) (W : World) : Nat := match W.cell? ⟨Bs, 0, none⟩ with
  | some (.string s) => s.size
  | _ => 0
theorem strLeft_eq {Bs : Nat} {W : World} {s : ByteArray} (h : W.heap[Bs]? = some (.cells #[.string s] 9 (0, 0))) : strLeft Bs W = s.size := by
  unfold strLeft
  rw [Lib.cell_of_heap h]; rfl

theorem prefix_of {s p : List UInt8} (h : Lib.hasPrefix s p = true) : p <+: s := List.isPrefixOf_iff_prefix.1 h

theorem readL_rec {s : List UInt8} {p : Int × List UInt8} (hs : s.length ≤ 6000000) (h : readL s = some p) :
    ((-9223372036854775808 ≤ p.1 ∧ p.1 ≤ 9223372036854775807) ∧ p.2.length ≤ 6000000) ∧ (bytesL p.1 p.2).length ≤ s.length ∧ 1 ≤ (bytesL p.1 p.2).length := by
  unfold readL at h
  split at h
  · cases h
  · split at h
    · rename_i n k hn hk
      split at h
      · cases h
      · split at h
        · rename_i hp
          injection h with h
          subst h
          refine ⟨⟨atoiOk_bound hn, ?_⟩, (prefix_of hp).length_le, ?_⟩
          · simp; omega
          · simp [bytesL]; omega
        · cases h
    · cases h

theorem grown_none {w w' : World} (h : Below w.heap.size w w') : w.grownBy w' none := ⟨h.os, h.tape, h.output, h.size, fun k hk _ => h.block k hk⟩

set_option maxHeartbeats 1600000 in
set_option maxRecDepth 100000 in
theorem records1 (w : World) (Bs : Nat) (s0 : ByteArray) (hBs : Bs < w.heap.size) (h5 : 5 < Bs) (hc : w.heap[Bs]? = some (.cells #[.string s0] 9 (0, 0))) (hG : G w) (hz : s0.size ≤ 6000000) :
    SeqStopsC Fence.wide 7 Tryz.prog 84 #[.pointer (some ⟨Bs, 0, none⟩)] (fun x : Rec => #[x.val]) (KpC Bs) Bs
      (fun xs => ∃ s', Recs (bl s0) xs s' ∧ readL s' = none) (fun pre => ∃ s', Recs (bl s0) pre s') (s0.size + 1) w := by
  intro l J Jx W hW hJ hJx hJs hJxs hY h0
  refine callsIn_of_wp Tryz.func84 rfl trivial ?_ rfl
  simp only [Tryz.ntmps84, List.size_toArray, List.length_cons, List.length_nil, Nat.reduceAdd, Nat.reduceSub, Array.replicate_succ, Array.replicate_zero, List.push_toArray, List.append_toArray, List.nil_append, List.cons_append]
  gi_wp2
  gi_loopw [] (fun wr => ∃ (pre : List Rec) (s : ByteArray), Hid (Recs (bl s0) pre (bl s)) ∧ s.size ≤ 6000000 ∧ Hid (pre.length + s.size ≤ s0.size) ∧ Hid (wr.heap[Bs]? = some (.cells #[.string s] 9 (0, 0))) ∧ Hid (J pre wr) ∧ Hid (G wr) ∧ Bs < wr.heap.size)
    (fun wr => strLeft Bs wr)
  case atStart =>
    exact ⟨[], s0, Recs.nil _, hz, by simp [Hid], (hW.block _ hBs).trans hc, h0, hG.below hW (by omega), by have := hW.size; omega⟩
  case round =>
    obtain ⟨pre, s, HR, hsz, HL, HC, HJ, HG, hBr⟩ := hrel
    have e0 : wr.cell? ⟨Bs, 0, none⟩ = some (.string s) := Lib.cell_of_heap HC.out 0
    cases hrd : readL (bl s) with
    | none =>
      have HRD := Lib.hid hrd
      clear hrd
      gi_wp2_with (refine ⟨trivial, ?_⟩; gi_at_call 85; refine (callsIn_wide.2 (read_none _ _ hsz HG.out HRD.out)).mono ?_; rintro e w1 ⟨rn, rk, rt, rfl, hb1⟩)
      refine ⟨fun _ h => (by cases h), ?_⟩
      gi_wp2
      refine bodyPost_ret (results_none rfl _ _ _) rfl ?_
      exact ⟨⟨_, rfl⟩, .inl ⟨pre, ⟨bl s, HR.out, HRD.out⟩, hJ _ _ _ none (hJ _ _ _ none HJ.out (grown_none hb1) (fun r e => by cases e)) (World.grownBy_alloc _ _ none) (fun r e => by cases e)⟩⟩
    | some p =>
      have hrl := readL_rec (by rw [← size_bl]; exact hsz) hrd
      obtain ⟨x, hx⟩ : ∃ x : Rec, x.1 = p := ⟨⟨p, hrl.1⟩, rfl⟩
      have hrd' : readL (bl s) = some (x.1.1, x.1.2) := by rw [hrd, ← hx]
      have hlen : (bytesL x.1.1 x.1.2).length ≤ s.size ∧ 1 ≤ (bytesL x.1.1 x.1.2).length := by rw [hx, size_bl]; exact hrl.2
      have HX := Lib.hid hx
      have HRD := Lib.hid hrd'
      clear hrd hrl hx hrd'
      gi_wp2_with (refine ⟨trivial, ?_⟩; gi_at_call 85; fail)
      refine ⟨trivial, ?_⟩
      refine (callsIn_wide.2 (read_some _ _ hsz HG.out HRD.out)).mono ?_
      rintro e w1 ⟨rfl, hb1⟩
      have hJ2 : J pre (w1.alloc (.cells #[.int .i64 x.1.1, .string (mkB x.1.2), .int .i64 ((bytesL x.1.1 x.1.2).length : Int)] 69)) :=
        hJ _ _ _ none (hJ _ _ _ none HJ.out (grown_none hb1) (fun r e => by cases e)) (World.grownBy_alloc _ _ none) (fun r e => by cases e)
      obtain ⟨fn, tmps, assign, body, hy, hR⟩ := hY pre x _ hJ2 (by have := HL.out; omega)
      simp only [Rec.val, Rec.len] at hy
      clear hJ2
      have hlt1 : wr.heap.size ≤ w1.heap.size := hb1.size
      have C1 : (w1.alloc (.cells #[.int .i64 x.1.1, .string (mkB x.1.2), .int .i64 ((bytesL x.1.1 x.1.2).length : Int)] 69)).heap[Bs]? = some (.cells #[.string s] 9 (0, 0)) := by
        rw [Below.heap_alloc _ _ _ (by omega)]; exact (hb1.block _ hBr).trans HC.out
      have X1 : (w1.alloc (.cells #[.int .i64 x.1.1, .string (mkB x.1.2), .int .i64 ((bytesL x.1.1 x.1.2).length : Int)] 69)).heap[w1.heap.size]? = some (.cells #[.int .i64 x.1.1, .string (mkB x.1.2), .int .i64 ((bytesL x.1.1 x.1.2).length : Int)] 69 (0, 0)) := heap_alloc_new _ _
      have G1 : G (w1.alloc (.cells #[.int .i64 x.1.1, .string (mkB x.1.2), .int .i64 ((bytesL x.1.1 x.1.2).length : Int)] 69)) := (HG.out.below hb1 (by omega)).alloc _
      have HC1 := Lib.hid C1
      have HX1 := Lib.hid X1
      have HG1 := Lib.hid G1
      clear C1 X1 G1
      gi_wp2
      refine hR.mono ?_
      rintro e W3 (⟨rfl, hJ3, hk3⟩ | ⟨rfl, hJx3⟩)
      · have C3 := Lib.hid (hk3.1 Bs _ _ _ (Nat.le_refl _) HC1.out)
        have X3 := Lib.hid (hk3.1 _ _ _ _ (by omega) HX1.out)
        have G3 := Lib.hid (HG1.out.below hk3.2 (by omega))
        have HJ3 := Lib.hid hJ3
        have c3 : W3.cell? ⟨Bs, 0, none⟩ = some (.string s) := Lib.cell_of_heap C3.out 0
        have f3 := Lib.frozen_of_heap C3.out
        have x3 : W3.cell? ⟨w1.heap.size, 2, none⟩ = some (.int .i64 ((bytesL x.1.1 x.1.2).length : Int)) := Lib.cell_of_heap X3.out 2
        have hB3 : Bs < W3.heap.size := (Array.getElem?_eq_some_iff.1 C3.out).1
        clear hJ3 hk3 hR hy hb1
        have HLEN := Lib.hid hlen
        obtain ⟨hlen1, hlen2⟩ := hlen
        have hstep : ∀ W : World, (Instr.slice 9 (.string s) (some (.int .i64 ((bytesL x.1.1 x.1.2).length : Int))) none none).run Tryz.prog W = .ok (.string (s.extract (bytesL x.1.1 x.1.2).length s.size)) W := by
          intro W
          have hj : (0 : Int) ≤ ((bytesL x.1.1 x.1.2).length : Int) ∧ ((bytesL x.1.1 x.1.2).length : Int) ≤ (s.size : Int) := ⟨by omega, by omega⟩
          simp [Instr.slice, Instr.sliceBounds, Instr.sliceBound, asIntOf, run_underlying Tryz.underlying9, hj]
          intro hc; omega
        have HE : Hid (bl (s.extract (bytesL x.1.1 x.1.2).length s.size) = (bl s).drop x.len) := by
          simp only [Hid]; rw [bl_extract, List.take_of_length_le (by simp [size_bl])]; rfl
        gi_wp2
        have hsz4 : (s.extract (bytesL x.1.1 x.1.2).length s.size).size = s.size - (bytesL x.1.1 x.1.2).length := by simp [ByteArray.size_extract]
        have C4 : (W3.setCell ⟨Bs, 0, none⟩ (.string (s.extract (bytesL x.1.1 x.1.2).length s.size))).heap[Bs]? = some (.cells #[.string (s.extract (bytesL x.1.1 x.1.2).length s.size)] 9 (0, 0)) := heap_setCell_at C3.out 0 _
        refine ⟨⟨pre ++ [x], s.extract (bytesL x.1.1 x.1.2).length s.size, ?_, by omega, ?_, C4, hJs _ _ _ HJ3.out, G3.out.below ((Below.refl 6 W3).setCell (by show 6 ≤ Bs; omega) _) (by omega), by simp [World.setCell]; exact hB3⟩, ?_⟩
        · simp only [Hid]; rw [HE.out]; exact Recs.snoc HR.out HRD.out
        · have := HL.out; simp only [Hid, List.length_append, List.length_cons, List.length_nil]; omega
        · rw [strLeft_eq C4, strLeft_eq HC.out, hsz4]; omega
      · gi_wp2
        refine bodyPost_ret (results_none rfl _ _ _) rfl ?_
        exact ⟨⟨_, rfl⟩, .inr ⟨pre ++ [x], ⟨_, Recs.snoc HR.out HRD.out⟩, hJx3⟩⟩
end Go.Proofs.YtinkdjeanjhkbaaGreatDoor
