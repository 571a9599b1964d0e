/-
  The plain law: a Put cut short at any action, and lost, leaves the old text or the new one.
-/
import Derived.Test.YtinkdjeanjhkbaaGreatDoorPG
namespace Go.Proofs.YtinkdjeanjhkbaaGreatDoor

def After (room : Int) (n : Int) (t u : List UInt8) (r : Rib) : Prop := ∃ F', r = rib room F' [] ∧ (F'.length : Int) ≤ room ∧ ((∃ k, Holds F' n t k) ∨ (∃ k, Holds F' (n + 1) u k))

def LostAll (room : Int) (n : Int) (t u : List UInt8) (r : Rib) : Prop := ∀ a b d, ∃ r', loseR r a b d = some r' ∧ After room n t u r'

section
variable {room : Int} {n : Int} {t u : List UInt8} (hr : 1000 ≤ room ∧ room ≤ 6000000) (hn : Num n) (hn1 : Num (n + 1)) (ht : t.length < 100000000) (hu : u.length < 100000000)
  (hroom : ((bytesL n t).length : Int) + (bytesL (n + 1) u).length ≤ room)
include hr

theorem lostAll0 {F : List UInt8} (hF : (F.length : Int) ≤ room) (h : (∃ k, Holds F n t k) ∨ (∃ k, Holds F (n + 1) u k)) : LostAll room n t u (rib room F []) :=
  fun a b d => ⟨_, lose0 hr hF a b d, F, rfl, hF, h⟩
theorem lostAll_keep {F : List UInt8} {x y : Int} (hF : (F.length : Int) ≤ room) (h0 : 0 ≤ x) (h1 : x ≤ y) (h2 : y ≤ F.length) (h : (∃ k, Holds F n t k) ∨ (∃ k, Holds F (n + 1) u k))
    (h' : (∃ k, Holds ((F.drop x.toNat).take (y.toNat - x.toNat)) n t k) ∨ (∃ k, Holds ((F.drop x.toNat).take (y.toNat - x.toNat)) (n + 1) u k)) : LostAll room n t u (rib room F [keepAct x y]) := by
  intro a b d
  rcases lose_keep hr hF h0 h1 h2 a b d with e | e
  · exact ⟨_, e, F, rfl, hF, h⟩
  · exact ⟨_, e, _, rfl, by simp only [List.length_take, List.length_drop]; omega, h'⟩
include hn hn1 ht hu hroom in
theorem lostAll_add : LostAll room n t u (rib room (bytesL n t) [addAct (mkB (bytesL (n + 1) u))]) := by
  intro a b d
  have hl := bytesL_len (n + 1) u hn1.1 hn1.2 hu
  rcases lose_add (f := bytesL n t) hr (by omega) hroom a b d with e | ⟨j, m, hj, hm, e⟩
  · exact ⟨_, e, _, rfl, by rw [List.length_append]; omega, .inr ⟨_, holds_next hn hn1 ht hu⟩⟩
  · exact ⟨_, e, _, rfl, by simp only [List.length_append, List.length_take, List.length_replicate]; omega, .inl ⟨_, holds_torn hn ht (readL_torn (n + 1) u hn1.1 hn1.2 hu j m hj)⟩⟩
end

/-- behind the first two actions (or without them): the old record alone -/
theorem put_tail {room : Int} {n : Int} {t u : List UInt8} (hr : 1000 ≤ room ∧ room ≤ 6000000) (hn : Num n) (hn1 : Num (n + 1)) (ht : t.length < 100000000) (hu : u.length < 100000000)
    (hroom : ((bytesL n t).length : Int) + (bytesL (n + 1) u).length ≤ room) (c : Nat) (hc : c ≤ 4) :
    ∃ r', actsFrom (rib room (bytesL n t) []) (([addAct (mkB (bytesL (n + 1) u)), fastAct, keepAct (bytesL n t).length ((bytesL n t).length + (bytesL (n + 1) u).length), fastAct] : List RAct).take c) = some r' ∧
      (c = 4 → r' = rib room (bytesL (n + 1) u) []) ∧ LostAll room n t u r' := by
  have hl := bytesL_len (n + 1) u hn1.1 hn1.2 hu
  have hA := holds_one hn ht
  have hN := holds_next hn hn1 ht hu
  have hB := holds_one hn1 hu
  have s1 := step_add (f := bytesL n t) hr (s := bytesL (n + 1) u) (by omega) hroom
  have s2 := step_fast_add room (bytesL n t) (bytesL (n + 1) u)
  have hlen : ((bytesL n t ++ bytesL (n + 1) u).length : Int) = (bytesL n t).length + (bytesL (n + 1) u).length := by rw [List.length_append]; omega
  have s3 := step_keep (room := room) (f := bytesL n t ++ bytesL (n + 1) u) (a := (bytesL n t).length) (b := (bytesL n t).length + (bytesL (n + 1) u).length) hr (by omega) (by omega) (by omega) (by omega)
  have s4 := step_fast_keep room (bytesL n t ++ bytesL (n + 1) u) (bytesL n t).length ((bytesL n t).length + (bytesL (n + 1) u).length)
  have eB : ((bytesL n t ++ bytesL (n + 1) u).drop ((bytesL n t).length : Int).toNat).take (((bytesL n t).length : Int) + (bytesL (n + 1) u).length).toNat = (((bytesL n t ++ bytesL (n + 1) u).drop ((bytesL n t).length : Int).toNat).take (((bytesL n t).length : Int) + (bytesL (n + 1) u).length).toNat) := rfl
  have eK : ((bytesL n t ++ bytesL (n + 1) u).drop ((bytesL n t).length : Int).toNat).take ((((bytesL n t).length : Int) + (bytesL (n + 1) u).length).toNat - ((bytesL n t).length : Int).toNat) = bytesL (n + 1) u := by
    rw [show ((bytesL n t).length : Int).toNat = (bytesL n t).length from rfl, List.drop_left' rfl, List.take_of_length_le (by omega)]
  rw [eK] at s4
  have : c = 0 ∨ c = 1 ∨ c = 2 ∨ c = 3 ∨ c = 4 := by omega
  rcases this with rfl | rfl | rfl | rfl | rfl
  · exact ⟨_, rfl, fun h => by omega, lostAll0 hr (by omega) (.inl ⟨_, hA⟩)⟩
  · exact ⟨_, by simp only [List.take]; rw [actsFrom_cons s1]; rfl, fun h => by omega, lostAll_add hr hn hn1 ht hu hroom⟩
  · exact ⟨_, by simp only [List.take]; rw [actsFrom_cons s1, actsFrom_cons s2]; rfl, fun h => by omega, lostAll0 hr (by omega) (.inr ⟨_, hN⟩)⟩
  · refine ⟨_, by simp only [List.take]; rw [actsFrom_cons s1, actsFrom_cons s2, actsFrom_cons s3]; rfl, fun h => by omega, lostAll_keep hr (by omega) (by omega) (by omega) (by omega) (.inr ⟨_, hN⟩) (.inr ⟨0, ?_⟩)⟩
    rw [eK]; exact hB
  · exact ⟨_, by simp only [List.take]; rw [actsFrom_cons s1, actsFrom_cons s2, actsFrom_cons s3, actsFrom_cons s4]; rfl, fun _ => rfl, lostAll0 hr (by omega) (.inr ⟨_, hB⟩)⟩
end Go.Proofs.YtinkdjeanjhkbaaGreatDoor
