/-
  The walks of slices.Clone, image.Act, New.
-/
import Derived.Test.YtinkdjeanjhkbaaGreatDoorD
namespace Go.Proofs.YtinkdjeanjhkbaaGreatDoor
open Go.RowKit
attribute [local go_sem] size_mkB

theorem infoAct : (Tryz.prog.info? 41).map (fun i => (i.zero, i.size, i.bytes)) = some (some (.agg #[.int .i64 0, .string ⟨#[]⟩, .int .i64 0, .int .i64 0]), 4, 40) := by kernel_rfl

theorem addr_add (b o j : Nat) : (⟨b, o, none⟩ : Addr).add j = ⟨b, o + j, none⟩ := by
  unfold Addr.add
  split
  · simp_all
  · rfl

/-- the cells of actions -/
def actCells (l : List RAct) : List Value := l.flatMap RAct.vals
theorem actCells_len (l : List RAct) : (actCells l).length = l.length * 4 := by
  induction l with
  | nil => rfl
  | cons a l ih => simp [actCells, RAct.vals] at *; omega
theorem actCells_append (l m : List RAct) : actCells (l ++ m) = actCells l ++ actCells m := by simp [actCells]
theorem actCells_get (l : List RAct) : ∀ i j, i < l.length → j < 4 → (actCells l)[i * 4 + j]? = (l.getD i zAct).vals[j]? := by
  induction l with
  | nil => intro i j h; cases h
  | cons a l ih =>
    intro i j hi hj
    have e : actCells (a :: l) = a.vals ++ actCells l := rfl
    have e4 : a.vals.length = 4 := rfl
    rw [e]
    cases i with
    | zero => rw [List.getElem?_append_left (by omega)]; simp
    | succ i =>
      rw [List.getElem?_append_right (by omega), show (i + 1) * 4 + j - a.vals.length = i * 4 + j by omega, ih i j (by simpa using hi) hj]
      simp
theorem actCells_one (l : List RAct) : ∀ u ∈ actCells l, u.oneCell' = true := by
  intro u hu
  obtain ⟨a, _, h⟩ := List.mem_flatMap.1 hu
  simp [RAct.vals] at h
  rcases h with rfl | rfl | rfl | rfl <;> rfl

/-- a row of actions that the call owns -/
def OwnActs (base : Nat) (w : World) (v : Value) (l : List RAct) : Prop := w.ownsRow base 41 4 v l.length (actCells l)

theorem OwnActs.reads {base : Nat} {w : World} {v : Value} {l : List RAct} (h : OwnActs base w v l) : ActsIn w.heap.size w v l := by
  have hlt := h.lt
  rcases h.2 with ⟨rfl, h0⟩ | ⟨g, cap, cur, rfl, hg, hb, hc, hm, hs, ht⟩
  · exact ⟨none, 0, by rw [h0], by omega, ⟨fun _ => rfl, by omega⟩, fun h => by omega⟩
  · refine ⟨_, cap, rfl, hc, ⟨(fun h => by cases h), by unfold maxLen at hm; omega⟩, fun h0 => ⟨g, 0, rfl, (hlt g rfl).2, fun i hi => ?_⟩⟩
    have hcell : ∀ j, j < 4 → w.cell? ⟨g, i * 4 + j, none⟩ = (l.getD i zAct).vals[j]? := by
      intro j hj
      rw [← actCells_get l i j hi hj]
      have := h.cells (g := g) rfl (i * 4 + j)
      have hlen := actCells_len l
      have hin : i * 4 + j < (actCells l).length := by omega
      rw [List.getElem?_eq_getElem hin] at this ⊢
      have := this _ rfl
      rw [addr_add, Nat.zero_add] at this
      exact this
    rw [Nat.zero_add]
    refine ⟨?_, ?_, ?_, ?_⟩
    · exact hcell 0 (by omega)
    · exact hcell 1 (by omega)
    · exact hcell 2 (by omega)
    · exact hcell 3 (by omega)

theorem ActsIn.news {B : Nat} {w : World} {n cap : Nat} {ad : Addr} {l : List RAct} (h : ActsIn B w (.slice (some ad) n cap) l) (j : Nat) (u : Value) (hu : (actCells l)[j]? = some u) : w.cell? (ad.add j) = some u := by
  obtain ⟨A, cap', e, hc, _, hcells⟩ := h
  injection e with e1 e2 e3
  have hj : j < (actCells l).length := (List.getElem?_eq_some_iff.1 hu).1
  rw [actCells_len] at hj
  obtain ⟨b, o, eA, hb, hall⟩ := hcells (by omega)
  rw [eA] at e1
  injection e1 with e1
  subst e1
  have hi : j / 4 < l.length := by omega
  have hget := actCells_get l (j / 4) (j % 4) hi (by omega)
  rw [show j / 4 * 4 + j % 4 = j by omega, hu] at hget
  obtain ⟨c0, c1, c2, c3⟩ := hall (j / 4) hi
  have hcase : j % 4 = 0 ∨ j % 4 = 1 ∨ j % 4 = 2 ∨ j % 4 = 3 := by omega
  have hdec : j = j / 4 * 4 + j % 4 := by omega
  rw [addr_add]
  rcases hcase with e | e | e | e
  · rw [e] at hget; rw [show o + j = o + j / 4 * 4 by omega, c0]; exact hget.symm
  · rw [e] at hget; rw [show o + j = o + j / 4 * 4 + 1 by omega, c1]; exact hget.symm
  · rw [e] at hget; rw [show o + j = o + j / 4 * 4 + 2 by omega, c2]; exact hget.symm
  · rw [e] at hget; rw [show o + j = o + j / 4 * 4 + 3 by omega, c3]; exact hget.symm

theorem own_form {w : World} {base e size n : Nat} {v : Value} {xs : List Value} (h : w.ownsRow base e size v n xs) : ∃ A c, v = .slice A n c := by
  rcases h.2 with ⟨rfl, h0⟩ | ⟨g, cap, cur, rfl, _⟩
  · exact ⟨none, 0, by rw [h0]⟩
  · exact ⟨_, _, rfl⟩

set_option maxHeartbeats 800000 in
set_option maxRecDepth 100000 in
theorem clone_any (v : Value) (l : List RAct) (w : World) (hl : ActsIn w.heap.size w v l) (hn : l.length ≤ 1000000000) :
    Calls Tryz.prog 21 #[v] w fun e w' => ∃ A cap, e = .returned (.slice A l.length cap) ∧ Hid (OwnActs w.heap.size w' (.slice A l.length cap) l) ∧ Below w.heap.size w w' := by
  have hl' := Lib.hid hl
  obtain ⟨A, cap, rfl, hc, ⟨hcm, hcl⟩, hcells⟩ := hl
  obtain ⟨i0, hi0, hz0, hz1, hz2⟩ := info_parts infoAct
  have hnil := fun (n c : Nat) (W : World) => Lib.run_eql_slice_nil (P := Tryz.prog) W 22 41 A n c 0 0 Tryz.underlying22
  cases A with
  | none =>
    have hl0 : l = [] := by
      cases l with
      | nil => rfl
      | cons a l => obtain ⟨b, o, e, _⟩ := hcells (by simp); cases e
    subst hl0
    clear hcells hcm hl'
    go_enter Tryz.func21, Tryz.ntmps21
    go_wp2
    go_ret
    exact ⟨none, 0, rfl, World.ownsRow_nil _ _ _ _, Below.refl _ _⟩
  | some ad =>
    clear hcells hcm
    go_enter Tryz.func21, Tryz.ntmps21
    go_wp2_with (at_builtin; refine wpList_append_own _ rfl _ _ 22 rfl w.heap.size 41 i0 _ 4 40 Tryz.underlying22 hi0 hz0 hz1 hz2 rfl (by decide) _ _ _ rfl (World.ownsRow_lit w #[] 0 (Nat.le_refl _) (by decide) rfl) ad l.length cap (actCells l) rfl ?c1 ?c2 ?c3 ?c4 ?c5 ?c6 ?_)
    case c1 => exact actCells_len l
    case c2 => exact fun j u hu => ActsIn.news (hl'.out.below ((Below.refl _ _).alloc (Nat.le_refl _) _)) j u hu
    case c3 => exact actCells_one l
    case c4 => unfold maxLen; omega
    case c5 => omega
    case c6 => simp
    intro v' w' hown hgr _
    obtain ⟨A2, c2, hv2⟩ := own_form hown
    rw [hv2]
    rw [hv2] at hown
    clear hv2
    go_wp2
    go_ret
    refine ⟨A2, c2, by simp, ?_, ?_⟩
    · simpa [OwnActs, Hid] using hown
    · exact ((Below.refl _ w).alloc (Nat.le_refl _) _).grown hgr (by simp) (fun k hk => by simp [Value.ownBlock] at hk; omega)
end Go.Proofs.YtinkdjeanjhkbaaGreatDoor
