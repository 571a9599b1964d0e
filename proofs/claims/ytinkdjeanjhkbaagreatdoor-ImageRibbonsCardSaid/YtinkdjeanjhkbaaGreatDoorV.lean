/-
  The walk of Words's closure, at the two texts of the examples.
-/
import Derived.Test.YtinkdjeanjhkbaaGreatDoorU
namespace Go.Proofs.YtinkdjeanjhkbaaGreatDoor
open Go.RowKit
attribute [local go_sem] size_mkB

structure SoleB (B g : Nat) (w w' : World) : Prop where
  os : w'.os = w.os
  tape : w'.tape = w.tape
  output : w'.output = w.output
  size : w.heap.size ≤ w'.heap.size
  block : ∀ k, k < B → k ≠ g → w'.heap[k]? = w.heap[k]?

theorem SoleB.refl (B g : Nat) (w : World) : SoleB B g w w := ⟨rfl, rfl, rfl, Nat.le_refl _, fun _ _ _ => rfl⟩
theorem SoleB.trans {B g : Nat} {a b c : World} (h : SoleB B g a b) (k : SoleB B g b c) : SoleB B g a c :=
  ⟨k.os.trans h.os, k.tape.trans h.tape, k.output.trans h.output, Nat.le_trans h.size k.size, fun i hi hg => (k.block i hi hg).trans (h.block i hi hg)⟩
theorem SoleB.of_below {B B' g : Nat} {a b : World} (h : Below B' a b) (hB : B ≤ B') : SoleB B g a b := ⟨h.os, h.tape, h.output, h.size, fun k hk _ => h.block k (by omega)⟩
theorem SoleB.of_sole {B g g' : Nat} {a b : World} (h : Sole g' a b) (hB : B ≤ g') : SoleB B g a b := ⟨h.os, h.tape, h.output, Nat.le_of_eq h.size.symm, fun k hk _ => h.block k (by omega)⟩
theorem SoleB.set {B g : Nat} {a b : World} (h : SoleB B g a b) (j : Nat) (v : Value) : SoleB B g a (b.setCell ⟨g, j, none⟩ v) :=
  ⟨h.os, h.tape, h.output, by simpa [World.setCell] using h.size, fun k hk hg => by rw [Below.heap_setCell _ _ _ _ hg]; exact h.block k hk hg⟩

/-- the loop of Words's closure: the cursor (block number w.heap.size), the text's cell, the cell of the words -/
structure WInv (w : World) (tc oc : Nat) (T : ByteArray) (k : Int) (xs : List ByteArray) (wr : World) : Prop where
  cur : wr.heap[w.heap.size]? = some (.cells #[.string T, .int .i64 k] 58 (0, 0))
  tx : wr.heap[tc]? = some (.cells #[.string T] 9 (0, 0))
  out : ∃ A c, wr.heap[oc]? = some (.cells #[.slice A xs.length c] 37 (0, 0)) ∧ wr.ownsRow (w.heap.size + 1) 9 1 (.slice A xs.length c) xs.length (xs.map Value.string)
  keeps : SoleB w.heap.size oc w wr
  size : w.heap.size < wr.heap.size

theorem WInv.below {w : World} {tc oc : Nat} {T : ByteArray} {k : Int} {xs : List ByteArray} {wr w1 : World} (h : WInv w tc oc T k xs wr) (ht : tc < w.heap.size) (ho : oc < w.heap.size) (hb : Below wr.heap.size wr w1) : WInv w tc oc T k xs w1 := by
  obtain ⟨h1, h2, ⟨A, c, h3, h3'⟩, h4, h5⟩ := h
  exact ⟨(hb.block _ h5).trans h1, (hb.block _ (by omega)).trans h2, ⟨A, c, (hb.block _ (by omega)).trans h3, own_below h3' hb⟩, h4.trans (SoleB.of_below hb (by omega)), by have := hb.size; omega⟩

theorem WInv.sole {w : World} {tc oc : Nat} {T : ByteArray} {k k' : Int} {xs : List ByteArray} {wr w1 : World} (h : WInv w tc oc T k xs wr) (ht : tc < w.heap.size) (ho : oc < w.heap.size) (hb : Sole w.heap.size wr w1)
    (hc : w1.heap[w.heap.size]? = some (.cells #[.string T, .int .i64 k'] 58 (0, 0))) : WInv w tc oc T k' xs w1 := by
  obtain ⟨h1, h2, ⟨A, c, h3, h3'⟩, h4, h5⟩ := h
  refine ⟨hc, (hb.block _ (by omega)).trans h2, ⟨A, c, (hb.block _ (by omega)).trans h3, h3'.1, ?_⟩, h4.trans (SoleB.of_sole hb (Nat.le_refl _)), by have := hb.size; omega⟩
  rcases h3'.2 with e | ⟨g, cap, cur, e, hg, hh, r⟩
  · exact Or.inl e
  · exact Or.inr ⟨g, cap, cur, e, hg, by rw [hb.block g (by omega)]; exact hh, r⟩

theorem infoStr : (Tryz.prog.info? 9).map (fun i => (i.zero, i.size, i.bytes)) = some (some (.string ⟨#[]⟩), 1, 16) := by kernel_rfl

/-- behind the append and the store -/
theorem WInv.app {w : World} {tc oc : Nat} {T s : ByteArray} {k : Int} {xs : List ByteArray} {wr w1 : World} {A A' : Option Addr} {c c' : Nat} (h : WInv w tc oc T k xs wr) (ht : tc < w.heap.size) (ho : oc < w.heap.size) (hto : tc ≠ oc)
    (hA : wr.heap[oc]? = some (.cells #[.slice A xs.length c] 37 (0, 0))) (o : Obj)
    (hw : w1.ownsRow (w.heap.size + 1) 9 1 (.slice A' (xs.length + 1) c') (xs.length + 1) (xs.map Value.string ++ [.string s])) (hg : (wr.alloc o).grownBy w1 (Value.slice A xs.length c).ownBlock) :
    WInv w tc oc T k (xs ++ [s]) (w1.setCell ⟨oc, 0, none⟩ (.slice A' (xs.length + 1) c')) := by
  obtain ⟨h1, h2, ⟨A0, c0, h3, h3'⟩, h4, h5⟩ := h
  rw [hA] at h3
  injection h3 with h3
  injection h3 with h3 _ _
  have e3 : Value.slice A xs.length c = Value.slice A0 xs.length c0 := by
    have := congrArg (fun a : Array Value => a[0]?) h3
    simpa using this
  have hr : ∀ g, (Value.slice A xs.length c).ownBlock = some g → w.heap.size + 1 ≤ g := fun g e => (h3'.lt g (by rw [← e3]; exact e)).1
  have hkeep : ∀ b, b < wr.heap.size → b < w.heap.size + 1 → w1.heap[b]? = wr.heap[b]? := fun b hb hb2 => by
    rw [hg.block b (by simp; omega) (fun e => by have := hr b e.symm; omega), Below.heap_alloc _ _ _ hb]
  have hs : wr.heap.size < w1.heap.size := by have := hg.size; simp at this; omega
  refine ⟨?_, ?_, ⟨A', c', ?_, ?_⟩, ?_, ?_⟩
  · rw [Below.heap_setCell _ _ _ _ (by show w.heap.size ≠ oc; omega), hkeep _ h5 (by omega)]; exact h1
  · rw [Below.heap_setCell _ _ _ _ (by show tc ≠ oc; omega), hkeep _ (by omega) (by omega)]; exact h2
  · have hoc := (hkeep oc (by omega) (by omega)).trans hA
    rw [heap_setCell_at hoc]
    simp
  · have := ownsRow_setCell_below hw (a := ⟨oc, 0, none⟩) (by show oc < _; omega) (.slice A' (xs.length + 1) c')
    simpa using this
  · refine SoleB.set (h4.trans ?_) _ _
    refine ⟨?_, ?_, ?_, by omega, fun k hk _ => hkeep k (by omega) (by omega)⟩
    · exact hg.os
    · exact hg.tape
    · exact hg.output
  · simp [World.setCell]; omega
end Go.Proofs.YtinkdjeanjhkbaaGreatDoor
