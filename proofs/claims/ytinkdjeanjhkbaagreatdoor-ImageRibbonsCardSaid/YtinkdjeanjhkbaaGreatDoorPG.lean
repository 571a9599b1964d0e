/-
  The plain law: what a loss of power leaves.
-/
import Derived.Test.YtinkdjeanjhkbaaGreatDoorPF
namespace Go.Proofs.YtinkdjeanjhkbaaGreatDoor

theorem loseL_nil (room : Int) (base : List UInt8) (b c : Int) : loseL room base [] b c = base := by
  have hk : (b % (([] : List UInt8).length + 1)).toNat = 0 := by simp
  simp only [loseL, hk]
  have hn : (c % (((0 : Nat) : Int) + 1)).toNat = 0 := by omega
  simp only [hn]
  simp

theorem loseL_some (room : Int) (base s : List UInt8) (b c : Int) (h : (base.length : Int) + s.length ≤ room) :
    loseL room base s b c = base ++ s ∨ ∃ j m, j < s.length ∧ j + m ≤ s.length ∧ loseL room base s b c = base ++ (s.take j ++ List.replicate m 126) := by
  obtain ⟨k, hk⟩ : ∃ k, (b % (s.length + 1)).toNat = k := ⟨_, rfl⟩
  obtain ⟨n, hn⟩ : ∃ n, (c % ((k : Int) + 1)).toNat = n := ⟨_, rfl⟩
  have hk1 : k ≤ s.length := by
    have h1 := Int.emod_lt_of_pos b (b := (s.length : Int) + 1) (by omega)
    have h2 := Int.emod_nonneg b (b := (s.length : Int) + 1) (by omega)
    omega
  have hn1 : n ≤ k := by
    have h1 := Int.emod_lt_of_pos c (b := (k : Int) + 1) (by omega)
    have h2 := Int.emod_nonneg c (b := (k : Int) + 1) (by omega)
    omega
  have hl : (s.take (k - n) ++ List.replicate n 126).length = k := by simp; omega
  have e : loseL room base s b c = base ++ (s.take (k - n) ++ List.replicate n 126) := by
    simp only [loseL, hk, hn]
    rw [List.take_of_length_le (by rw [hl]; omega)]
  rw [e]
  by_cases hf : k - n = s.length
  · left
    have : n = 0 := by omega
    subst this
    rw [hf, List.take_of_length_le (Nat.le_refl _)]
    simp
  · exact .inr ⟨k - n, n, by omega, by omega, rfl⟩

theorem lose0 {room : Int} {f : List UInt8} (hr : 1000 ≤ room ∧ room ≤ 6000000) (hf : (f.length : Int) ≤ room) (a b c : Int) : loseR (rib room f []) a b c = some (rib room f []) := by
  unfold loseR
  rw [if_pos (rib_valid0 hr hf)]
  simp only [rib, bl_mk, addedL, keptL, loseL_nil]
  split <;> rfl
theorem lose_keep {room : Int} {f : List UInt8} {x y : Int} (hr : 1000 ≤ room ∧ room ≤ 6000000) (hf : (f.length : Int) ≤ room) (h0 : 0 ≤ x) (h1 : x ≤ y) (h2 : y ≤ f.length) (a b c : Int) :
    loseR (rib room f [keepAct x y]) a b c = some (rib room f []) ∨ loseR (rib room f [keepAct x y]) a b c = some (rib room ((f.drop x.toNat).take (y.toNat - x.toNat)) []) := by
  unfold loseR
  rw [if_pos (rib_valid_keep hr hf h0 h1 h2)]
  have e0 : bl (⟨#[]⟩ : ByteArray) = [] := rfl
  have ea : addedL [keepAct x y] = [] := by simp [addedL, keepAct, e0]
  have ek : keptL f [keepAct x y] = (f.drop x.toNat).take (y.toNat - x.toNat) := by
    simp only [keptL]; rw [if_pos (kind_keep x y)]; rfl
  simp only [rib, bl_mk, ea, ek, loseL_nil]
  split
  · exact .inr rfl
  · exact .inl rfl
theorem lose_add {room : Int} {f s : List UInt8} (hr : 1000 ≤ room ∧ room ≤ 6000000) (hs : 1 ≤ s.length) (hf : (f.length : Int) + s.length ≤ room) (a b c : Int) :
    loseR (rib room f [addAct (mkB s)]) a b c = some (rib room (f ++ s) []) ∨ ∃ j m, j < s.length ∧ j + m ≤ s.length ∧ loseR (rib room f [addAct (mkB s)]) a b c = some (rib room (f ++ (s.take j ++ List.replicate m 126)) []) := by
  unfold loseR
  rw [if_pos (rib_valid_add hr hs hf)]
  have ea : addedL [addAct (mkB s)] = s := by simp [addedL, addAct, bl_mk]
  have ek : keptL f [addAct (mkB s)] = f := by
    simp only [keptL]; rw [if_neg (kind_add s)]
  simp only [rib, bl_mk, ea, ek]
  have hb : (if a % 2 = 1 then f else f) = f := by split <;> rfl
  rw [hb]
  rcases loseL_some room f s b c hf with e | ⟨j, m, hj, hm, e⟩
  · rw [e]; exact .inl rfl
  · rw [e]; exact .inr ⟨j, m, hj, hm, rfl⟩
end Go.Proofs.YtinkdjeanjhkbaaGreatDoor
