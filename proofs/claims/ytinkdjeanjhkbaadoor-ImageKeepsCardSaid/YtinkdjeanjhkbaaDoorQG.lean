/-
  The row of writes that came in, for ImageKeeps.
-/
import Derived.Test.YtinkdjeanjhkbaaDoorPL
import Derived.Test.YtinkdjeanjhkbaaDoorQB
namespace Go.Proofs.YtinkdjeanjhkbaaDoor
open Go.RowKit Go.WideShapes Go.ChangeShapes

theorem cellsWr : Tryd.prog.cellsOf 36 = 5 := by kernel_rfl
theorem cellsU8 : Tryd.prog.cellsOf 5 = 1 := by kernel_rfl
theorem cellsLose : Tryd.prog.cellsOf 34 = 3 := by kernel_rfl

theorem u8_bounds {n : Int} (h : (Lit.int .u8 n).wf = true) : 0 ≤ n ∧ n < 256 := by
  simp [Lit.wf, IntKind.min, IntKind.max, IntKind.signed, IntKind.bits] at h
  omega

abbrev WrIn := { x : Wr // 0 ≤ x.cut ∧ x.cut < 256 }
def zWrIn : WrIn := ⟨zWr, by decide, by decide⟩

section
variable {H : Type} {enc : TypeId × Value → H}
set_option maxRecDepth 100000 in
theorem wr_of_trod {W : World} {n : Nat} {cs : List Value} {y : DataW H × List MemPlace} (h : DataW.trod enc Tryd.prog W 0 (fun _ => true) true n 36 cs = some y) :
    ∃ a : WrIn, cs = a.1.vals := by
  obtain ⟨xs, m, rfl, hx, hlen, hxl, hf⟩ := DataW.trod_struct Tryd.underlying36 h
  rw [cellsWr] at hlen
  have hxs : xs.length = 3 := hxl
  have g0 : DataW.trod enc Tryd.prog W 0 (fun _ => true) true m 9 ((cs.drop 0).take (Tryd.prog.cellsOf 9)) = xs[0]? := hf 0 _ rfl
  have g1 : DataW.trod enc Tryd.prog W 0 (fun _ => true) true m 5 ((cs.drop 1).take (Tryd.prog.cellsOf 5)) = xs[1]? := hf 1 _ rfl
  have g2 : DataW.trod enc Tryd.prog W 0 (fun _ => true) true m 34 ((cs.drop 2).take (Tryd.prog.cellsOf 34)) = xs[2]? := hf 2 _ rfl
  rw [cellsStr] at g0
  rw [cellsU8] at g1
  rw [cellsLose] at g2
  match cs, hlen with
  | [c0, c1, c2, c3, c4], _ =>
    rw [List.getElem?_eq_getElem (by omega)] at g0 g1 g2
    obtain ⟨s, e0, _⟩ := DataW.trod_string Tryd.underlying9 g0
    obtain ⟨k, e1, _, w1⟩ := DataW.trod_int Tryd.underlying5 g1
    obtain ⟨zs, m', rfl, _, hl2, hzl, hi⟩ := DataW.trod_array Tryd.underlying34 g2
    have k0 := hi 0 (by decide)
    have k1 := hi 1 (by decide)
    have k2 := hi 2 (by decide)
    rw [cellsInt] at k0 k1 k2
    rw [List.getElem?_eq_getElem (by omega)] at k0 k1 k2
    obtain ⟨a, f0, _⟩ := DataW.trod_int Tryd.underlying3 k0
    obtain ⟨b, f1, _⟩ := DataW.trod_int Tryd.underlying3 k1
    obtain ⟨c, f2, _⟩ := DataW.trod_int Tryd.underlying3 k2
    refine ⟨⟨⟨s, k, a, b, c⟩, u8_bounds w1⟩, ?_⟩
    simp at e0 e1 f0 f1 f2
    rw [e0, e1, f0, f1, f2]
    rfl

set_option maxRecDepth 100000 in
theorem writes_of_trod {W : World} {r : Reach} {b0 : Nat} {v : Value} {d : DataW H} {ps : List MemPlace} (hval : Value.okWide Tryd.prog W r b0 23 v) (h : DataW.Trod enc Tryd.prog W 0 (fun _ => true) true 23 v d ps) :
    ∃ l : List Wr, WritesIn W.heap.size W v l := by
  obtain ⟨a0, len0, cap0, rfl⟩ := okWide_slice Tryd.underlying23 hval
  obtain ⟨fuel, hf⟩ := h
  have hf' : DataW.trod enc Tryd.prog W 0 (fun _ => true) true fuel 23 [.slice a0 len0 cap0] = some (d, ps) := hf
  obtain ⟨l, A, cap, hv, hl, hc, hr⟩ := rows_of_trod (fun a : WrIn => a.1.vals) zWrIn 5 Tryd.underlying23 cellsWr (by decide) (fun a => by simp [Wr.vals]) (fun n cs y h => wr_of_trod h) hf'
  rw [hv]
  have hg : ∀ i, (l.map (·.1)).getD i zWr = (l.getD i zWrIn).1 := fun i => by
    rw [List.getD_eq_getElem?_getD, List.getD_eq_getElem?_getD, List.getElem?_map]
    cases l[i]? <;> rfl
  refine ⟨l.map (·.1), A, cap, by rw [List.length_map], by rw [List.length_map]; exact hc.2, fun i _ => ?_, fun h0 => ?_⟩
  · rw [hg]; exact (l.getD i zWrIn).2
  · rw [List.length_map] at h0
    obtain ⟨b, o, e, hb, hi⟩ := hr h0
    refine ⟨b, o, e, hb, fun i hil => ?_⟩
    rw [List.length_map] at hil
    rw [hg]
    exact ⟨hi i hil 0 (by decide), hi i hil 1 (by decide), hi i hil 2 (by decide), hi i hil 3 (by decide), hi i hil 4 (by decide)⟩
end
end Go.Proofs.YtinkdjeanjhkbaaDoor
