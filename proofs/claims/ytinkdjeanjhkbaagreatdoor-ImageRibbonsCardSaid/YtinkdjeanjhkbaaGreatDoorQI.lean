/-
  ImageRibbons' three numbers that came in; the walk, with what the calls return put in.
-/
import Derived.Test.YtinkdjeanjhkbaaGreatDoorQB
import Derived.Test.YtinkdjeanjhkbaaGreatDoorRE
namespace Go.Proofs.YtinkdjeanjhkbaaGreatDoor
open Go.RowKit Go.WideShapes Go.ChangeShapes

theorem i64_bounds {n : Int} (h : (Lit.int .i64 n).wf = true) : -9223372036854775808 ≤ n ∧ n ≤ 9223372036854775807 := by
  simp [Lit.wf, IntKind.min, IntKind.max, IntKind.signed, IntKind.bits] at h
  omega

set_option maxRecDepth 100000 in
theorem tri_of_trod {H : Type} {enc : TypeId × Value → H} {W : World} {r : Reach} {b0 : Nat} {v : Value} {d : DataW H} {ps : List MemPlace} (hval : Value.okWide Tryz.prog W r b0 25 v) (h : DataW.Trod enc Tryz.prog W 0 (fun _ => true) true 25 v d ps) :
    ∃ x y z : Int, v = .agg #[.int .i64 x, .int .i64 y, .int .i64 z] ∧ (-9223372036854775808 ≤ x ∧ x ≤ 9223372036854775807) := by
  have hu := Tryz.underlying25
  simp only [Value.okWide, hu] at hval
  obtain ⟨cs, rfl, hsz, _⟩ := hval
  obtain ⟨fuel, hf⟩ := h
  obtain ⟨xs, m, rfl, _, hlen, hxl, hi⟩ := DataW.trod_array hu hf
  rw [show Tryz.prog.cellsOf 25 = 3 by kernel_rfl] at hlen
  have g0 := hi 0 (by decide)
  have g1 := hi 1 (by decide)
  have g2 := hi 2 (by decide)
  rw [cellsInt] at g0 g1 g2
  rw [List.getElem?_eq_getElem (by omega)] at g0 g1 g2
  obtain ⟨l⟩ := cs
  have hlen' : l.length = 3 := by simpa [Value.cells] using hlen
  match l, hlen' with
  | [c0, c1, c2], _ =>
    obtain ⟨x, e0, _, w0⟩ := DataW.trod_int Tryz.underlying3 g0
    obtain ⟨y, e1, _, _⟩ := DataW.trod_int Tryz.underlying3 g1
    obtain ⟨z, e2, _, _⟩ := DataW.trod_int Tryz.underlying3 g2
    simp [Value.cells] at e0 e1 e2
    subst e0; subst e1; subst e2
    exact ⟨x, y, z, rfl, i64_bounds w0⟩

theorem ribbons_any (r : Rib) (v lv : Value) (l : List RAct) (a b c : Int) (w : World) (hv : ActsIn w.heap.size w v r.acts) (hl : ActsIn w.heap.size w lv l) (hG : G w)
    (ha : -9223372036854775808 ≤ a ∧ a ≤ 9223372036854775807) :
    Calls Tryz.prog 3 #[.agg #[.int .i64 r.room, .string r.fast, v], lv, .agg #[.int .i64 a, .int .i64 b, .int .i64 c]] w fun e w' => e = .returned (.bool true) ∧ Below w.heap.size w w' := by
  obtain ⟨u, hu⟩ : ∃ u : UInt8, b % 256 = u.toNat := by
    refine ⟨UInt8.ofNat (b % 256).toNat, ?_⟩
    have h0 := Int.emod_nonneg b (by decide : (256 : Int) ≠ 0)
    have h1 := Int.emod_lt_of_pos b (by decide : (0 : Int) < 256)
    simp only [UInt8.toNat_ofNat']
    omega
  have hlose : ribOf (loseR (ribOf (loseR r a b c)) c a b) = ribOf (loseR r a b c) ∧ ((errOf 260 (loseR r a b c) = 0 ∧ errOf 260 (loseR (ribOf (loseR r a b c)) c a b) = 0) ∨ errOf 260 (loseR r a b c) = 260) := by
    cases h : loseR r a b c with
    | none => exact ⟨by show ribOf (loseR zRib c a b) = zRib; rw [loses_bad zRib_invalid]; rfl, Or.inr rfl⟩
    | some q =>
      have e : loseR (ribOf (some q)) c a b = some q := lose_twice h c a b
      rw [e]
      exact ⟨rfl, Or.inl ⟨rfl, rfl⟩⟩
  have hact : (errOf 260 (actR r l) = 0 ∧ errOf 260 (actR r (l.take (l.length / 2))) = 0 ∧ errOf 260 (actR (ribOf (actR r (l.take (l.length / 2)))) (l.drop (l.length / 2))) = 0 ∧
      ribOf (actR (ribOf (actR r (l.take (l.length / 2)))) (l.drop (l.length / 2))) = ribOf (actR r l)) ∨ errOf 260 (actR r l) = 260 := by
    cases h : actR r l with
    | none => exact Or.inr rfl
    | some q =>
      obtain ⟨x, h1, h2⟩ := act_halves h (l.length / 2)
      have e : actR (ribOf (some x)) (l.drop (l.length / 2)) = some q := h2
      rw [h1, e]
      exact Or.inl ⟨rfl, rfl, rfl, rfl⟩
  exact ribbons_walk r v lv l a b c w hv hl hG ha u hu _ _ _ _ _ _ _ _ (Lib.hid ⟨rfl, rfl⟩) (Lib.hid ⟨rfl, rfl⟩) (Lib.hid ⟨rfl, rfl⟩) (Lib.hid ⟨rfl, rfl⟩) _ _ _ _ _ (l.length / 2) (by omega) (Lib.hid (by omega))
    (Lib.hid ⟨hlose.1, rfl⟩) (Lib.hid ⟨rfl, rfl⟩) (Lib.hid ⟨rfl, rfl⟩) (Lib.hid hlose.2) (Lib.hid hact)
end Go.Proofs.YtinkdjeanjhkbaaGreatDoor
