/-
  The walk of Words's closure, at the two texts of the examples.
-/
import Derived.Test.YtinkdjeanjhkbaaGreatDoorT
import Derived.Deep.RegionLaw
namespace Go.Proofs.YtinkdjeanjhkbaaGreatDoor
open Go.RowKit
attribute [local go_sem] size_mkB

/-- the kit's law on append to a row of one's own, as one step of a region that draws -/
theorem step_append_own {P : Program} {ops : Array Oper} {o : Oper} {a : Act} {w : World} {K : Act → World → Prop} {Q : Exit → Act → World → Prop} {E : Prop}
    (hg : o.guard = none) (s x : Operand) (t : TypeId) (hop : o.op = Op.call { callee := Callee.builtin Builtin.append, args := #[s, x], argTypes := #[t, t] })
    (base : Nat) (e : TypeId) (i : TypeInfo) (z : Value) (size bytes : Nat) (h1 : P.underlying t = some (.slice e)) (h2 : P.info? e = some i) (h3 : i.zero = some z) (h4 : i.size = size) (h5 : i.bytes = bytes) (h6 : z.cells.size = size) (h7 : 0 < size)
    (v : Value) (k : Nat) (xs : List Value) (hs : a.eval s = v) (hown : w.ownsRow base e size v k xs)
    (ad : Addr) (m c : Nat) (news : List Value) (hx : a.eval x = .slice (some ad) m c) (hn : news.length = m * size) (hc : ∀ j u, news[j]? = some u → w.cell? (ad.add j) = some u) (h1c : ∀ u ∈ news, u.oneCell' = true)
    (b1 : k + m ≤ maxLen) (b2 : (k + m) * bytes ≤ 140737488355328) (b3 : base ≤ w.heap.size)
    (hK : ∀ A' c' w', w'.ownsRow base e size (.slice A' (k + m) c') (k + m) (xs ++ news) → w.grownBy w' v.ownBlock → K (a.put o.dst (.slice A' (k + m) c')) w') :
    if Region.wanted o (yielded ops a.tmps) = true then Oper.wp P o a w K Q else E := by
  have hw : Region.wanted o (yielded ops a.tmps) = true := by simp [Region.wanted, hg]
  rw [if_pos hw]
  obtain ⟨v', w', hrun, r1, r2, _⟩ := run_append_own (P := P) w base t o.type e i z size bytes h1 h2 h3 h4 h5 h6 h7 v k xs hown ad m c news hn hc h1c b1 b2 b3
  obtain ⟨A', c', hv'⟩ := own_form r1
  subst hv'
  unfold Oper.wp
  simp [execOp, hop, resolve, invoke, builtin, hs, hx, hrun, Result.andThen]
  exact hK _ _ _ r1 r2

/-- a Go function's contract, as one step of a region that draws -/
theorem step_call {P : Program} {ops : Array Oper} {o : Oper} {a : Act} {w : World} {K : Act → World → Prop} {Q : Exit → Act → World → Prop} {E : Prop}
    (hg : o.guard = none) (h : Oper.wp P o a w K Q) : if Region.wanted o (yielded ops a.tmps) = true then Oper.wp P o a w K Q else E := by
  have hw : Region.wanted o (yielded ops a.tmps) = true := by simp [Region.wanted, hg]
  rw [if_pos hw]; exact h

set_option maxRecDepth 100000 in
theorem zero_set : ∀ w, (zeroValue 91).run Tryz.prog w = .ok (.agg (Array.replicate 256 (.bool false))) w := by
  exact Tryz.zeroValue91

theorem indexAny_some (s : ByteArray) (w : World) (hs : s.size ≤ 1000000) (ha : ∀ (j : Nat) b, s.data.toList[j]? = some b → b.toNat < 128) :
    Calls Tryz.prog 33 #[.string s, .string ⟨#[58, 32]⟩] w fun e w' => e = .returned (.int .i64 (Lib.indexAny (bl s) [58, 32])) ∧ Below w.heap.size w w' := by
  by_cases h8 : s.size ≤ 8
  · refine (Tryz.strings_IndexAny_short s ⟨#[58, 32]⟩ w (by decide) h8 ha).mono ?_
    rintro e w' ⟨rfl, pos, rfl⟩
    exact ⟨rfl, (Below.refl _ _).alloc (Nat.le_refl _) _⟩
  · refine (Tryz.strings_IndexAny_long zero_set s ⟨#[58, 32]⟩ w (by decide) (by omega) (by omega) (by decide) ?_).mono ?_
    · intro j b hb
      have hb' : [58, 32][j]? = some b := hb
      rcases j with _ | _ | j
      · cases hb'; decide
      · cases hb'; decide
      · simp at hb'
    · rintro e w' ⟨rfl, rfl⟩
      exact ⟨rfl, ((Below.refl _ _).alloc (Nat.le_refl _) _).alloc (by simp) _⟩
end Go.Proofs.YtinkdjeanjhkbaaGreatDoor
