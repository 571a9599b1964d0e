/-
  A region that draws its order, whose operations read and whose callees leave what was there as it was: one walk in the order of the text, over the worlds that stand behind a world Y.
-/
import Derived.WalkKit
import Derived.Below
import Derived.Deep.Quiet
import Derived.Deep.QuietTactic
import Derived.BigQuiet
namespace Go.Proofs.YtinkdjeanjhkbaaGreatDoor
open Go.RowKit

/-- a world behind Y: what was there is as it was -/
structure Later (Y : World) where
  w : World
  low : Below Y.heap.size Y w

instance instLater (Y : World) : Nonempty (Later Y) := ⟨⟨Y, Below.refl _ _⟩⟩

theorem Later.cell {Y : World} (z : Later Y) {b o : Nat} {v : Value} (h : Y.cell? ⟨b, o, none⟩ = some v) (hb : b < Y.heap.size) : z.w.cell? ⟨b, o, none⟩ = some v :=
  (z.low.cell (p := ⟨b, o, none⟩) hb).trans h

theorem Later.call {P : Program} {f : FuncId} {args : Array Value} {Y : World} {z : Later Y} {v : Value} (h : Calls P f args z.w fun e w' => e = .returned v ∧ Below z.w.heap.size z.w w') :
    Calls P f args z.w fun e w'' => e = .returned v ∧ ∃ z' : Later Y, w'' = z'.w :=
  h.mono fun _ w' ⟨he, hb⟩ => ⟨he, ⟨w', z.low.trans (hb.mono z.low.size)⟩, rfl⟩
theorem Later.same {P : Program} {f : FuncId} {args : Array Value} {Y : World} {z : Later Y} {v : Value} (h : Calls P f args z.w fun e w' => e = .returned v ∧ z.w = w') :
    Calls P f args z.w fun e w'' => e = .returned v ∧ ∃ z' : Later Y, w'' = z'.w :=
  h.mono fun _ _ ⟨he, hb⟩ => ⟨he, z, hb.symm⟩

theorem wp_region_later {P : Program} {id : Nat} {Q : Exit → Act → World → Prop} {a : Act} {w : World} {l : List Oper} (Y : World) (hm : P.follows .mixedOrders = true) (hB : Region.lexB .any l.toArray = true) (hC : Below Y.heap.size Y w)
    (h : wpQuiet P l.toArray (fun w' => ∃ z : Later Y, w' = z.w) (fun a' => ∀ w', (∃ z : Later Y, w' = z.w) → Q .normal a' w') l a) : (Code.region id l.toArray true).wp P Q a w :=
  wp_region_quiet (C := fun w' => ∃ z : Later Y, w' = z.w) hm hB ⟨⟨_, hC.drew⟩, rfl⟩ (by simpa using h)
end Go.Proofs.YtinkdjeanjhkbaaGreatDoor
