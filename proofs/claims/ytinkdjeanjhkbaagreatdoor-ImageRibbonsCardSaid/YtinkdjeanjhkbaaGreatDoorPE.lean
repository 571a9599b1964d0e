/-
  The plain law: what is held; format and put on a sound ribbon.
-/
import Derived.Test.YtinkdjeanjhkbaaGreatDoorPD
namespace Go.Proofs.YtinkdjeanjhkbaaGreatDoor

def Num (n : Int) : Prop := 0 ≤ n ∧ n < 1000000000000
theorem heldR_torn {n : Int} {t torn : List UInt8} (hn : Num n) (ht : t.length < 100000000) (h : readL torn = none) : heldR (bytesL n t ++ torn) = some ((n, t), 0) := by
  unfold heldR
  rw [readL_bytes n t torn hn.1 hn.2 ht]
  simp only [plen]
  rw [List.drop_left' rfl, h]
theorem readL_nil : readL [] = none := by
  unfold readL
  rw [if_pos (by decide)]
theorem heldR_one' {n : Int} {t : List UInt8} (hn : Num n) (ht : t.length < 100000000) : heldR (bytesL n t) = some ((n, t), 0) := by
  have := heldR_torn (torn := []) hn ht readL_nil
  rwa [List.append_nil] at this
theorem heldR_next {n : Int} {t u : List UInt8} (hn : Num n) (hn1 : Num (n + 1)) (ht : t.length < 100000000) (hu : u.length < 100000000) : heldR (bytesL n t ++ bytesL (n + 1) u) = some ((n + 1, u), (bytesL n t).length) := by
  unfold heldR
  rw [readL_bytes n t _ hn.1 hn.2 ht]
  simp only [plen]
  have h2 := readL_bytes (n + 1) u [] hn1.1 hn1.2 hu
  rw [List.append_nil] at h2
  rw [List.drop_left' rfl, h2]
  have hc : (n + 1 = RowKit.wrap64 (n + 1) ∧ (bytesL n t).length + (bytesL (n + 1) u).length = (bytesL n t ++ bytesL (n + 1) u).length) := by
    refine ⟨?_, by rw [List.length_append]⟩
    have := hn.1; have := hn.2
    unfold RowKit.wrap64; omega
  exact if_pos hc

theorem newR_ok {room : Int} (hr : 1000 ≤ room ∧ room ≤ 6000000) : newR room = some (rib room [] []) := by
  have h := rib_valid0 (f := []) hr (by simp; omega)
  have e : (rib room [] []) = (⟨room, ⟨#[]⟩, []⟩ : Rib) := rfl
  rw [e] at h
  unfold newR
  rw [if_pos h, e]
theorem actsFrom_cons {r r1 : Rib} {a : RAct} {l : List RAct} (h : actStep r a = some r1) : actsFrom r (a :: l) = actsFrom r1 l := by
  simp only [actsFrom, h]
theorem len0 : (bytesL 0 []).length = 45 := by rw [bytesL_len 0 [] (by decide) (by decide) (by decide)]; rfl

theorem formattedR_ok {room : Int} (hr : 1000 ≤ room ∧ room ≤ 6000000) : formattedR room = (rib room (bytesL 0 []) [], true) := by
  unfold formattedR
  rw [newR_ok hr]
  simp only [actedR, actR]
  have hv := rib_valid0 (f := []) hr (by simp; omega)
  have hl := len0
  rw [if_pos hv, actsFrom_cons (step_keep hr (by simp; omega) (by decide) (by decide) (by decide)), actsFrom_cons (step_fast_keep _ _ _ _)]
  have e : (([] : List UInt8).drop (0 : Int).toNat).take ((0 : Int).toNat - (0 : Int).toNat) = [] := rfl
  rw [e, actsFrom_cons (step_add hr (by omega) (by simp; omega)), actsFrom_cons (step_fast_add _ _ _)]
  rfl
end Go.Proofs.YtinkdjeanjhkbaaGreatDoor
