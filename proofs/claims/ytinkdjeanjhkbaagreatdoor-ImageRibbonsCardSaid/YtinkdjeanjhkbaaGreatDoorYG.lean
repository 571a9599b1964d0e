/-
  For the reference's Act: its own blocks; append of a row of actions, nil or not, onto a row of one's own; one step, plain.
-/
import Derived.Test.YtinkdjeanjhkbaaGreatDoorYD
import Derived.Test.YtinkdjeanjhkbaaGreatDoorU
namespace Go.Proofs.YtinkdjeanjhkbaaGreatDoor
open Go.RowKit
attribute [local go_sem] size_mkB

theorem shape_snoc {l : List RAct} {a : RAct} (h : Shape (l ++ [a])) : actOk a = true ∧ a.kind ≠ 3 := by
  cases l with
  | nil => exact ⟨h.1, by rcases h.2.1 with e | e <;> omega⟩
  | cons b l => exact ⟨(h.2.2 a (by simp)).1, by have := (h.2.2 a (by simp)).2; omega⟩
theorem step_other (r : Rib) {a : RAct} (h3 : a.kind ≠ 3) : actStep r a = if ({ r with acts := r.acts ++ [a] } : Rib).valid then some { r with acts := r.acts ++ [a] } else none := by
  unfold actStep
  by_cases hok : actOk a = true
  · rw [if_neg (by simp [hok]), if_neg h3]
  · rw [if_pos (by simpa using hok), if_neg]
    intro hv
    exact hok (shape_snoc ((valid_iff _ _ _).1 hv).2.2.2.1).1
theorem step_fast (r : Rib) {a : RAct} (h3 : a.kind = 3) : actStep r a = if a.text.toList.isEmpty = true ∧ a.frm = 0 ∧ a.to = 0 then some (fastened r) else none := by
  unfold actStep actOk
  rw [if_neg (by omega : ¬ a.kind = 1), if_neg (by omega : ¬ a.kind = 2), if_pos h3, if_pos h3]
  by_cases h : a.text.toList.isEmpty = true ∧ a.frm = 0 ∧ a.to = 0
  · rw [if_pos h, if_neg]
    obtain ⟨h1, h2, h4⟩ := h
    rw [h1, h2, h4]; decide
  · rw [if_neg h, if_pos]
    simp only [Bool.and_eq_false_iff, beq_eq_false_iff_ne]
    cases h1 : a.text.toList.isEmpty with
    | false => exact Or.inl (Or.inl rfl)
    | true =>
      by_cases h2 : a.frm = 0
      · right; intro h4; exact h ⟨h1, h2, h4⟩
      · exact Or.inl (Or.inr h2)

structure RAInv (w wr : World) (r : Rib) (A : Option Addr) (cap : Nat) : Prop where
  box : wr.heap[w.heap.size]? = some (.cells #[.int .i64 r.room, .string r.fast, .slice A r.acts.length cap] 24 (0, 0))
  res : wr.heap[w.heap.size + 1]? = some (.cells #[.int .i64 0, .string ⟨#[]⟩, .slice none 0 0] 24 (0, 0))
  acts : ActsIn wr.heap.size wr (.slice A r.acts.length cap) r.acts
  low : Below w.heap.size w wr
  size : w.heap.size + 2 ≤ wr.heap.size

theorem RAInv.below {w wr w' : World} {r : Rib} {A : Option Addr} {cap : Nat} (h : RAInv w wr r A cap) (hb : Below wr.heap.size wr w') : RAInv w w' r A cap := by
  have hs := h.size
  have hs' := hb.size
  exact ⟨(hb.block _ (by omega)).trans h.box, (hb.block _ (by omega)).trans h.res, (h.acts.below hb).mono hs', h.low.trans (hb.mono (by omega)), by omega⟩
theorem RAInv.cells {w wr : World} {r : Rib} {A : Option Addr} {cap : Nat} (h : RAInv w wr r A cap) :
    (wr.cell? ⟨w.heap.size, 0, none⟩ = some (.int .i64 r.room) ∧ wr.cell? ⟨w.heap.size, 1, none⟩ = some (.string r.fast) ∧ wr.cell? ⟨w.heap.size, 2, none⟩ = some (.slice A r.acts.length cap)) ∧
    (wr.cell? ⟨w.heap.size + 1, 0, none⟩ = some (.int .i64 0) ∧ wr.cell? ⟨w.heap.size + 1, 1, none⟩ = some (.string ⟨#[]⟩) ∧ wr.cell? ⟨w.heap.size + 1, 2, none⟩ = some (.slice none 0 0)) ∧
    (∀ j, wr.frozen? ⟨w.heap.size, j, none⟩ = false) ∧ (∀ j, wr.frozen? ⟨w.heap.size + 1, j, none⟩ = false) ∧ w.heap.size < wr.heap.size ∧ w.heap.size + 1 < wr.heap.size :=
  ⟨⟨Lib.cell_of_heap h.box 0, Lib.cell_of_heap h.box 1, Lib.cell_of_heap h.box 2⟩, ⟨Lib.cell_of_heap h.res 0, Lib.cell_of_heap h.res 1, Lib.cell_of_heap h.res 2⟩, Lib.frozen_of_heap h.box, Lib.frozen_of_heap h.res,
   by have := h.size; omega, by have := h.size; omega⟩
theorem RAInv.start {w w1 : World} {r : Rib} {A : Option Addr} {cap : Nat} (hv : ActsIn w.heap.size w (.slice A r.acts.length cap) r.acts)
    (h : Below ((w.alloc (.cells #[.int .i64 r.room, .string r.fast, .slice A r.acts.length cap] 24)).alloc (.cells #[.int .i64 0, .string ⟨#[]⟩, .slice none 0 0] 24)).heap.size
      ((w.alloc (.cells #[.int .i64 r.room, .string r.fast, .slice A r.acts.length cap] 24)).alloc (.cells #[.int .i64 0, .string ⟨#[]⟩, .slice none 0 0] 24)) w1) : RAInv w w1 r A cap := by
  obtain ⟨h1, h2, h3, h4⟩ := two_new h
  exact ⟨h1, h2, (hv.below h3).mono h3.size, h3, h4⟩
/-- a new ribbon in the ribbon's block -/
theorem RAInv.fast {w wr : World} {r r' : Rib} {A : Option Addr} {cap : Nat} (h : RAInv w wr r A cap) (he : r'.acts = []) :
    RAInv w (((wr.setCell ⟨w.heap.size, 0, none⟩ (.int .i64 r'.room)).setCell ⟨w.heap.size, 1, none⟩ (.string r'.fast)).setCell ⟨w.heap.size, 2, none⟩ (.slice none 0 0)) r' none 0 := by
  refine ⟨?_, ?_, ?_, below_set3 h.low (Nat.le_refl _) _ _ _, by simpa [World.setCell] using h.size⟩
  · rw [he]; exact heap_setCell_at (heap_setCell_at (heap_setCell_at h.box 0 _) 1 _) 2 _
  · rw [Below.heap_setCell _ _ _ _ (by simp), Below.heap_setCell _ _ _ _ (by simp), Below.heap_setCell _ _ _ _ (by simp)]; exact h.res
  · rw [he]; exact ActsIn.nil _ _
theorem ract_fast {w W w5 : World} {rk : Rib} {A : Option Addr} {c : Nat} {z : ByteArray} (h : Hid (RAInv w W rk A c)) (hB : Hid (Below W.heap.size W w5)) (hz : Hid (bl z = keptL (bl rk.fast) rk.acts)) :
    Hid (RAInv w (((w5.setCell ⟨w.heap.size, 0, none⟩ (.int .i64 rk.room)).setCell ⟨w.heap.size, 1, none⟩ (.string (z ++ mkB (addedL rk.acts)))).setCell ⟨w.heap.size, 2, none⟩ (.slice none 0 0)) (fastened rk) none 0) := by
  have e : (fastened rk).fast = z ++ mkB (addedL rk.acts) := bl_inj (by rw [bl_append, hz.out, bl_mk]; exact bl_mk _)
  have := (h.out.below hB.out).fast (r' := fastened rk) rfl
  rw [e] at this
  exact this

set_option maxRecDepth 100000 in
/-- a new row of actions in the ribbon's block -/
theorem RAInv.row {w wr : World} {r : Rib} {A A' : Option Addr} {cap cap' : Nat} {l : List RAct} (h : RAInv w wr r A cap) (ho : wr.ownsRow (w.heap.size + 2) 41 4 (.slice A' l.length cap') l.length (actCells l)) :
    RAInv w (wr.setCell ⟨w.heap.size, 2, none⟩ (.slice A' l.length cap')) { r with acts := l } A' cap' := by
  refine ⟨heap_setCell_at h.box 2 _, ?_, ?_, h.low.setCell (Nat.le_refl _) _, by simpa [World.setCell] using h.size⟩
  · rw [Below.heap_setCell _ _ _ _ (by simp)]; exact h.res
  · exact OwnActs.reads (base := w.heap.size + 2) (ownsRow_setCell_below ho (by show w.heap.size < _; omega) _)

set_option maxRecDepth 100000 in
theorem ract_row {w W w6 : World} {rk : Rib} {a : RAct} {Ak A6 : Option Addr} {ck c6 : Nat} (h : Hid (RAInv w W rk Ak ck)) (hb : Hid (Below W.heap.size W w6))
    (ho : Hid (w6.ownsRow W.heap.size 41 4 (.slice A6 (rk.acts.length + [a].length) c6) (rk.acts.length + [a].length) (actCells rk.acts ++ actCells [a]))) :
    Hid (RAInv w (w6.setCell ⟨w.heap.size, 2, none⟩ (.slice A6 (rk.acts.length + 1) c6)) { rk with acts := rk.acts ++ [a] } A6 c6) := by
  have e : rk.acts.length + [a].length = (rk.acts ++ [a]).length := by simp
  have ho' := ho.out
  rw [e, ← actCells_append] at ho'
  have hs := h.out.size
  have := (h.out.below hb.out).row (l := rk.acts ++ [a]) (OwnActs.mono' ho' (by omega))
  have e2 : (rk.acts ++ [a]).length = rk.acts.length + 1 := by simp
  rw [e2] at this
  exact this

theorem own_empty {w : World} {base g : Nat} (hb : base ≤ g) (hg : w.heap[g]? = some (.cells #[] 41 (0, 0))) : w.ownsRow base 41 4 (.slice (some ⟨g, 0, none⟩) 0 0) 0 [] :=
  ⟨rfl, Or.inr ⟨g, 0, #[], rfl, hb, hg, Nat.le_refl _, Nat.zero_le _, rfl, rfl⟩⟩

set_option maxRecDepth 100000 in
/-- append of a row of actions, which may be nil -/
theorem append_acts_run {w : World} {base n B : Nat} {v : Value} {xs : List Value} (hown : w.ownsRow base 41 4 v n xs) {A : Option Addr} {cap : Nat} {l : List RAct} (h : ActsIn B w (.slice A l.length cap) l)
    (hl : n + l.length ≤ 1000000000) (hb : base ≤ w.heap.size) :
    ∃ A' c' w', (Builtin.append_ #[22, 22] 22 #[v, .slice A l.length cap]).run Tryz.prog w = .ok (.slice A' (n + l.length) c') w' ∧
      w'.ownsRow base 41 4 (.slice A' (n + l.length) c') (n + l.length) (xs ++ actCells l) ∧ w.grownBy w' v.ownBlock := by
  obtain ⟨i0, hi0, hz0, hz1, hz2⟩ := info_parts infoAct
  cases A with
  | some ad =>
    obtain ⟨v', w', hrun, r1, r2, _⟩ := run_append_own (P := Tryz.prog) w base 22 22 41 i0 _ 4 40 Tryz.underlying22 hi0 hz0 hz1 hz2 rfl (by decide) v n xs hown ad l.length cap (actCells l) (actCells_len l)
      (fun j u hu => ActsIn.news h j u hu) (actCells_one l) (by unfold maxLen; omega) (by omega) hb
    obtain ⟨A', c', rfl⟩ := own_form r1
    exact ⟨A', c', w', hrun, r1, r2⟩
  | none =>
    have hl0 : l = [] := by
      obtain ⟨A2, c2, e, _, _, hc⟩ := h
      injection e with e1 _ _
      cases l with
      | nil => rfl
      | cons a l =>
        obtain ⟨b, o, e', _⟩ := hc (by simp)
        rw [← e1] at e'
        cases e'
    subst hl0
    obtain ⟨A', c', rfl⟩ := own_form hown
    refine ⟨A', c', w, ?_, by simpa [actCells] using hown, ⟨rfl, rfl, rfl, Nat.le_refl _, fun _ _ _ => rfl⟩⟩
    have hc : n ≤ c' := by
      rcases hown.2 with ⟨e, h0⟩ | ⟨g, cap', cur, e, _, _, hc, _⟩
      · omega
      · injection e with _ _ e; omega
    cases A' with
    | none => simp [Builtin.append_, run_underlying Tryz.underlying22, sizeOf, typeInfo, hi0, Builtin.lenOf, Builtin.firstCells, hc]
    | some p => simp [Builtin.append_, run_underlying Tryz.underlying22, sizeOf, typeInfo, hi0, Builtin.lenOf, Builtin.firstCells, hc, storeCells]

theorem one_act {w : World} {b : Nat} {a : RAct} (h : w.heap[b]? = some (.cells #[.int .i64 a.kind, .string a.text, .int .i64 a.frm, .int .i64 a.to] 41 (0, 0))) : ActsIn w.heap.size w (.slice (some ⟨b, 0, none⟩) [a].length 1) [a] := by
  refine ⟨some ⟨b, 0, none⟩, 1, rfl, Nat.le_refl _, ⟨fun e => (by cases e), by simp⟩, fun _ => ⟨b, 0, rfl, (Array.getElem?_eq_some_iff.1 h).1, fun i hi => ?_⟩⟩
  have hi0 : i = 0 := by simp at hi; exact hi
  subst hi0
  exact ⟨Lib.cell_of_heap h 0, Lib.cell_of_heap h 1, Lib.cell_of_heap h 2, Lib.cell_of_heap h 3⟩

theorem step_append_acts {ops : Array Oper} {o : Oper} {a : Act} {w : World} {K : Act → World → Prop} {Q : Exit → Act → World → Prop} {E : Prop}
    (hg : o.guard = none) (s x : Operand) (hop : o.op = Op.call { callee := Callee.builtin Builtin.append, args := #[s, x], argTypes := #[22, 22] }) (hty : o.type = 22)
    (base B : Nat) (v : Value) (n : Nat) (xs : List Value) (hs : a.eval s = v) (hown : w.ownsRow base 41 4 v n xs)
    (A : Option Addr) (cap : Nat) (l : List RAct) (hx : a.eval x = .slice A l.length cap) (hl : ActsIn B w (.slice A l.length cap) l)
    (b1 : n + l.length ≤ 1000000000) (b3 : base ≤ w.heap.size)
    (hK : ∀ A' c' w', w'.ownsRow base 41 4 (.slice A' (n + l.length) c') (n + l.length) (xs ++ actCells l) → w.grownBy w' v.ownBlock → K (a.put o.dst (.slice A' (n + l.length) c')) w') :
    if Region.wanted o (yielded ops a.tmps) = true then Oper.wp Tryz.prog o a w K Q else E := by
  have hw : Region.wanted o (yielded ops a.tmps) = true := by simp [Region.wanted, hg]
  rw [if_pos hw]
  obtain ⟨A', c', w', hrun, r1, r2⟩ := append_acts_run hown hl b1 b3
  unfold Oper.wp
  simp [execOp, hop, hty, resolve, invoke, builtin, hs, hx, hrun, Result.andThen]
  exact hK _ _ _ r1 r2
end Go.Proofs.YtinkdjeanjhkbaaGreatDoor
