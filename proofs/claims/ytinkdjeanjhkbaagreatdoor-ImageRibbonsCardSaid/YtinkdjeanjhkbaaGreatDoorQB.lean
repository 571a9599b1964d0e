/-
  The rows of layer 26: what the conditions of a row give the walks: the laid variables, a ribbon that came in; a world for the witness.
-/
import Derived.Test.YtinkdjeanjhkbaaGreatDoorCards
import Derived.Test.YtinkdjeanjhkbaaGreatDoorTie
import Derived.Test.YtinkdjeanjhkbaaGreatDoorB
import Derived.Test.YtinkdjeanjhkbaaGreatDoorQA
import Derived.Deep.Slices
import Derived.Deep.Fields
import Derived.Lib.SmallJoins
import Derived.Lib.LaidTab
import Derived.LaidMore
import Derived.Stop.LaidErr
namespace Go.Proofs.YtinkdjeanjhkbaaGreatDoor
open Go.RowKit Go.WideShapes Go.ChangeShapes

theorem own : ownKnob Tryz.prog.godebug = none := by kernel_rfl
theorem laidOut : laidOutB Tryz.prog = true := by kernel_rfl

/-! ### an action, a row of actions -/

theorem cellsAct : Tryz.prog.cellsOf 41 = 4 := by kernel_rfl
theorem cellsRib : Tryz.prog.cellsOf 24 = 3 := by kernel_rfl
theorem cellsInt : Tryz.prog.cellsOf 3 = 1 := by kernel_rfl
theorem cellsStr : Tryz.prog.cellsOf 9 = 1 := by kernel_rfl
theorem oneRib : Deep.oneCellFields Tryz.prog #[{ name := "Room", type := 3, offset := 0, embedded := false, tag := "", pkgPath := "", byteOffset := 0 },
  { name := "Fast", type := 9, offset := 1, embedded := false, tag := "", pkgPath := "", byteOffset := 8 }, { name := "Acts", type := 22, offset := 2, embedded := false, tag := "", pkgPath := "", byteOffset := 24 }] = true := by kernel_rfl

section
variable {H : Type} {enc : TypeId × Value → H}

set_option maxRecDepth 100000 in
theorem act_of_trod {W : World} {n : Nat} {cs : List Value} {y : DataW H × List MemPlace} (h : DataW.trod enc Tryz.prog W 0 (fun _ => true) true n 41 cs = some y) :
    ∃ a : RAct, cs = a.vals := by
  obtain ⟨xs, m, rfl, hx, hlen, hxl, hf⟩ := DataW.trod_struct Tryz.underlying41 h
  rw [cellsAct] at hlen
  have hxs : xs.length = 4 := hxl
  have g0 : DataW.trod enc Tryz.prog W 0 (fun _ => true) true m 3 ((cs.drop 0).take (Tryz.prog.cellsOf 3)) = xs[0]? := hf 0 _ rfl
  have g1 : DataW.trod enc Tryz.prog W 0 (fun _ => true) true m 9 ((cs.drop 1).take (Tryz.prog.cellsOf 9)) = xs[1]? := hf 1 _ rfl
  have g2 : DataW.trod enc Tryz.prog W 0 (fun _ => true) true m 3 ((cs.drop 2).take (Tryz.prog.cellsOf 3)) = xs[2]? := hf 2 _ rfl
  have g3 : DataW.trod enc Tryz.prog W 0 (fun _ => true) true m 3 ((cs.drop 3).take (Tryz.prog.cellsOf 3)) = xs[3]? := hf 3 _ rfl
  rw [cellsInt] at g0 g2 g3
  rw [cellsStr] at g1
  match cs, hlen with
  | [c0, c1, c2, c3], _ =>
    rw [List.getElem?_eq_getElem (by omega)] at g0 g1 g2 g3
    obtain ⟨k, e0, _⟩ := DataW.trod_int Tryz.underlying3 g0
    obtain ⟨s, e1, _⟩ := DataW.trod_string Tryz.underlying9 g1
    obtain ⟨a, e2, _⟩ := DataW.trod_int Tryz.underlying3 g2
    obtain ⟨b, e3, _⟩ := DataW.trod_int Tryz.underlying3 g3
    refine ⟨⟨k, s, a, b⟩, ?_⟩
    simp only [List.drop, List.take, List.cons.injEq, and_true] at e0 e1 e2 e3
    rw [e0, e1, e2, e3]
    rfl

theorem acts_of_trod {W : World} {n : Nat} {v : Value} {y : DataW H × List MemPlace} (h : DataW.trod enc Tryz.prog W 0 (fun _ => true) true n 22 [v] = some y) :
    ∃ l : List RAct, ActsIn W.heap.size W v l := by
  obtain ⟨l, A, cap, rfl, hl, hc, hr⟩ := rows_of_trod RAct.vals zAct 4 Tryz.underlying22 cellsAct (by decide) (fun a => by simp [RAct.vals]) (fun n cs y h => act_of_trod h) h
  refine ⟨l, A, cap, rfl, hl, hc, fun h0 => ?_⟩
  obtain ⟨b, o, e, hb, hi⟩ := hr h0
  exact ⟨b, o, e, hb, fun i hil => ⟨hi i hil 0 (by decide), hi i hil 1 (by decide), hi i hil 2 (by decide), hi i hil 3 (by decide)⟩⟩

set_option maxRecDepth 100000 in
theorem rib_of_trod {W : World} {r : Reach} {b0 : Nat} {v : Value} {d : DataW H} {ps : List MemPlace} (hval : Value.okWide Tryz.prog W r b0 24 v) (h : DataW.Trod enc Tryz.prog W 0 (fun _ => true) true 24 v d ps) :
    ∃ (q : Rib) (u : Value), v = .agg #[.int .i64 q.room, .string q.fast, u] ∧ ActsIn W.heap.size W u q.acts := by
  obtain ⟨v0, v1, v2, y0, y1, y2, n, rfl, _, _, h0, h1, h2⟩ := Joins.open_agg3 Tryz.underlying24 oneRib cellsRib hval h
  obtain ⟨k, e0, _⟩ := DataW.trod_int Tryz.underlying3 h0
  obtain ⟨s, e1, _⟩ := DataW.trod_string Tryz.underlying9 h1
  obtain ⟨l, hl⟩ := acts_of_trod h2
  simp only [List.cons.injEq, and_true] at e0 e1
  subst e0; subst e1
  exact ⟨⟨k, s, l⟩, v2, rfl, hl⟩
end

/-! ### the laid variables -/

def laidAll : List (String × DataW Unit) := [("math/bits.deBruijn32tab", Rows.laid_math_bits_deBruijn32tab), ("math/bits.deBruijn64tab", Rows.laid_math_bits_deBruijn64tab), ("internal/strconv.uint64pow10", Rows.laid_internal_strconv_uint64pow10), ("strconv.ErrRange", Rows.laid_strconv_ErrRange), ("strconv.ErrSyntax", Rows.laid_strconv_ErrSyntax)]

theorem tyPow : (Tryz.prog.globals[3]?).map (·.type) = some 143 := by kernel_rfl
theorem cellsPow : Tryz.prog.cellsOf 143 = 20 := by kernel_rfl
theorem cellsU64 : Tryz.prog.cellsOf 106 = 1 := by kernel_rfl
theorem global_db64 : Tryz.prog.globalNamed "math/bits.deBruijn64tab" = some 5 := by kernel_rfl
theorem tySyn : (Tryz.prog.globals[1]?).map (·.type) = some 64 := by kernel_rfl
theorem tyRng : (Tryz.prog.globals[2]?).map (·.type) = some 64 := by kernel_rfl
theorem ty64 : (Tryz.prog.globals[5]?).map (·.type) = some 148 := by kernel_rfl
theorem cells64 : Tryz.prog.cellsOf 148 = 64 := by kernel_rfl
theorem cellsErrS : Tryz.prog.cellsOf 141 = 1 := by kernel_rfl

theorem row_at {W : World} {g : Nat} {n : String} {cs : Array Value} (hg : Tryz.prog.globalNamed n = some g) (hv : W.var? Tryz.prog n = some cs) (h0 : 0 < cs.size) : g < W.heap.size := by
  have h := World.var?_cell hg hv 0
  rw [Array.getElem?_eq_getElem h0] at h
  unfold World.cell? at h
  split at h
  · rename_i hh
    exact (Array.getElem?_eq_some_iff.1 hh).1
  · cases h

theorem starErrS : "*" ++ "errors.errorString" = "*errors.errorString" := by decide
theorem rowErrS (u : TypeId) (h : Tryz.prog.typeName? 3 u = some "*errors.errorString") : u = 139 :=
  typeName_ptr_named (nm := "errors.errorString") (by rw [starErrS]; kernel_rfl) (by kernel_rfl) (by decide) u (by rw [starErrS]; exact h)

set_option maxRecDepth 100000 in
theorem G_of_laid {W : World} (h0 : laidMetH Tryz.prog laidAll W) : G W := by
  have h : laidMet Tryz.prog laidAll W := by
    rw [MakeChecks.laidMetH_plain _ _ _ (by kernel_rfl)] at h0
    exact h0
  have h64 : laidMet Tryz.prog (("math/bits.deBruijn64tab", Rows.laid_math_bits_deBruijn64tab) :: _) W := h.tail
  have hp : laidMet Tryz.prog (("internal/strconv.uint64pow10", Lib.tabData .u64 Lib.pow10Tab) :: _) W := h.tail.tail
  have hr : laidMet Tryz.prog (("strconv.ErrRange", Rows.laid_strconv_ErrRange) :: _) W := h.tail.tail.tail
  have hs : laidMet Tryz.prog (("strconv.ErrSyntax", Rows.laid_strconv_ErrSyntax) :: _) W := h.tail.tail.tail.tail
  refine ⟨?_, Lib.tabIs_of_head global_pow tyPow Tryz.underlying143 Tryz.underlying106 cellsU64 cellsPow hp, ?_, ?_⟩
  rotate_left
  · obtain ⟨a, s, hv, _⟩ := laid_sentinel hs global_syn tySyn Tryz.underlying64 rowErrS Tryz.underlying139 Tryz.underlying141 rfl rfl Tryz.underlying9 cellsErrS cellsStr
    exact ⟨_, _, hv⟩
  · obtain ⟨a, s, hv, _⟩ := laid_sentinel hr global_rng tyRng Tryz.underlying64 rowErrS Tryz.underlying139 Tryz.underlying141 rfl rfl Tryz.underlying9 cellsErrS cellsStr
    exact ⟨_, _, hv⟩
  obtain ⟨ps, ⟨g, t', cs, fuel, p, q, hg', ht', hvar, hd, _, _⟩, _⟩ := h64
  refine row_at global_db64 hvar ?_
  obtain rfl := Option.some.inj (global_db64.symm.trans hg')
  obtain rfl := Option.some.inj (ty64.symm.trans ht')
  obtain ⟨_, _, _, _, hlen, _⟩ := DataW.trod_array Tryz.underlying148 hd
  rw [cells64] at hlen
  have : cs.size = 64 := by rw [← Array.length_toList]; exact hlen
  omega

/-- a world for the witness: what the variables' door leaves -/
theorem laid_met (os : Os) (args : Array Value) : laidMet Tryz.prog laidAll ((World.doorLaid Tryz.prog 62 os).forCall (fun _ _ => 0) ⟨#[], args, []⟩).memory :=
  laidMet_of_run' 8 (by kernel_rfl) (by kernel_rfl)
end Go.Proofs.YtinkdjeanjhkbaaGreatDoor
