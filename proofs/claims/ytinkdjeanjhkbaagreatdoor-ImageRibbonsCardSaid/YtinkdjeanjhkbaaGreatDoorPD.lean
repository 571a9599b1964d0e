/-
  The plain law: actions on a sound ribbon, what is held, what a loss leaves.
-/
import Derived.Test.YtinkdjeanjhkbaaGreatDoorPC
import Derived.Test.YtinkdjeanjhkbaaGreatDoorR
namespace Go.Proofs.YtinkdjeanjhkbaaGreatDoor

def rib (room : Int) (f : List UInt8) (l : List RAct) : Rib := ⟨room, mkB f, l⟩

theorem rib_valid0 {room : Int} {f : List UInt8} (hr : 1000 ≤ room ∧ room ≤ 6000000) (hf : (f.length : Int) ≤ room) : (rib room f []).valid := by
  refine (valid_iff _ _ _).2 ⟨hr.1, hr.2, ?_, trivial, trivial, ?_⟩
  · simp only [rib, size_mkB]; exact hf
  · simp only [rib, keptL, addedL, bl_mk]; simp; exact hf
theorem emptyL : (⟨#[]⟩ : ByteArray).toList = [] := by rw [Lib.toList_data]
theorem ok_keep (a b : Int) : actOk (keepAct a b) = true := by simp [actOk, keepAct, emptyL]
theorem ok_fast : actOk fastAct = true := by simp [actOk, fastAct, emptyL]
theorem kind_keep (a b : Int) : (keepAct a b).kind = 2 := rfl
theorem kind_add (s : List UInt8) : ¬ (addAct (mkB s)).kind = 2 := by show ¬ (1 : Int) = 2; decide
theorem ok_add {s : List UInt8} (h1 : 1 ≤ s.length) (h2 : s.length ≤ 6000000) : actOk (addAct (mkB s)) = true := by
  simp [actOk, addAct, size_mkB, h1, h2]

theorem rib_valid_keep {room : Int} {f : List UInt8} {a b : Int} (hr : 1000 ≤ room ∧ room ≤ 6000000) (hf : (f.length : Int) ≤ room) (h0 : 0 ≤ a) (h1 : a ≤ b) (h2 : b ≤ f.length) : (rib room f [keepAct a b]).valid := by
  refine (valid_iff _ _ _).2 ⟨hr.1, hr.2, ?_, ⟨ok_keep a b, .inr rfl, fun _ h => by cases h⟩, fun _ => ⟨h0, h1, ?_⟩, ?_⟩
  · simp only [rib, size_mkB]; exact hf
  · simp only [rib, size_mkB]; exact h2
  · simp only [rib, keptL, addedL, bl_mk]
    rw [if_pos (kind_keep a b)]
    simp only [keepAct, List.length_append, List.length_take, List.length_drop]
    have : (bl (⟨#[]⟩ : ByteArray)).length = 0 := rfl
    rw [this]
    simp only [List.length_nil]
    omega
theorem rib_valid_add {room : Int} {f s : List UInt8} (hr : 1000 ≤ room ∧ room ≤ 6000000) (hs : 1 ≤ s.length) (hf : (f.length : Int) + s.length ≤ room) : (rib room f [addAct (mkB s)]).valid := by
  refine (valid_iff _ _ _).2 ⟨hr.1, hr.2, ?_, ⟨ok_add hs (by omega), .inl rfl, fun _ h => by cases h⟩, ⟨fun h => absurd h (kind_add s), ?_⟩⟩
  · simp only [rib, size_mkB]; omega
  · simp only [rib, keptL, addedL, bl_mk]
    rw [if_neg (kind_add s)]
    simp only [addAct, bl_mk, List.append_nil]
    omega

theorem step_keep {room : Int} {f : List UInt8} {a b : Int} (hr : 1000 ≤ room ∧ room ≤ 6000000) (hf : (f.length : Int) ≤ room) (h0 : 0 ≤ a) (h1 : a ≤ b) (h2 : b ≤ f.length) :
    actStep (rib room f []) (keepAct a b) = some (rib room f [keepAct a b]) := by
  unfold actStep
  rw [if_neg (by rw [ok_keep]; decide), if_neg (by show ¬ (2 : Int) = 3; decide), if_pos]
  · rfl
  · exact rib_valid_keep hr hf h0 h1 h2
theorem step_add {room : Int} {f s : List UInt8} (hr : 1000 ≤ room ∧ room ≤ 6000000) (hs : 1 ≤ s.length) (hf : (f.length : Int) + s.length ≤ room) :
    actStep (rib room f []) (addAct (mkB s)) = some (rib room f [addAct (mkB s)]) := by
  unfold actStep
  rw [if_neg (by rw [ok_add hs (by omega)]; decide), if_neg (by show ¬ (1 : Int) = 3; decide), if_pos]
  · rfl
  · exact rib_valid_add hr hs hf
theorem step_fast_keep (room : Int) (f : List UInt8) (a b : Int) : actStep (rib room f [keepAct a b]) fastAct = some (rib room ((f.drop a.toNat).take (b.toNat - a.toNat)) []) := by
  unfold actStep
  rw [if_neg (by rw [ok_fast]; decide), if_pos (by rfl)]
  unfold fastened
  simp only [rib, bl_mk]
  congr 2
  simp only [keptL, addedL]
  rw [if_pos (kind_keep a b)]
  have : bl (⟨#[]⟩ : ByteArray) = [] := rfl
  simp [keepAct, this]
theorem step_fast_add (room : Int) (f s : List UInt8) : actStep (rib room f [addAct (mkB s)]) fastAct = some (rib room (f ++ s) []) := by
  unfold actStep
  rw [if_neg (by rw [ok_fast]; decide), if_pos (by rfl)]
  unfold fastened
  simp only [rib, bl_mk]
  congr 2
  simp only [keptL, addedL]
  rw [if_neg (kind_add s)]
  simp [addAct, bl_mk]
theorem step_fast0 (room : Int) (f : List UInt8) : actStep (rib room f []) fastAct = some (rib room f []) := by
  unfold actStep
  rw [if_neg (by rw [ok_fast]; decide), if_pos (by rfl)]
  unfold fastened
  simp [rib, bl_mk, keptL, addedL]
end Go.Proofs.YtinkdjeanjhkbaaGreatDoor
