/-
  The plain law: a whole Put; a Put cut short, from any sound ribbon.
-/
import Derived.Test.YtinkdjeanjhkbaaGreatDoorPH
namespace Go.Proofs.YtinkdjeanjhkbaaGreatDoor

theorem actR_of {r : Rib} (h : r.valid) (l : List RAct) : actR r l = actsFrom r l := by unfold actR; rw [if_pos h]

theorem put_cut {room : Int} {F : List UInt8} {n : Int} {t u : List UInt8} {k : Nat} (hr : 1000 ≤ room ∧ room ≤ 6000000) (hF : (F.length : Int) ≤ room) (h : Holds F n t k) (hn1 : Num (n + 1)) (hu : u.length < 100000000)
    (hroom : ((bytesL n t).length : Int) + (bytesL (n + 1) u).length ≤ room) (c : Nat) (hc : c ≤ (putList F k (bytesL n t).length (bytesL (n + 1) u)).length) :
    ∃ r', actR (rib room F []) ((putList F k (bytesL n t).length (bytesL (n + 1) u)).take c) = some r' ∧
      (c = (putList F k (bytesL n t).length (bytesL (n + 1) u)).length → r' = rib room (bytesL (n + 1) u) []) ∧ LostAll room n t u r' := by
  rw [actR_of (rib_valid0 hr hF)]
  have hb := h.bound
  have hA := holds_one h.num h.len
  unfold putList at hc ⊢
  by_cases hlt : (bytesL n t).length < F.length
  · rw [if_pos hlt] at hc ⊢
    have s1 := step_keep (room := room) (f := F) (a := k) (b := k + (bytesL n t).length) hr hF (by omega) (by omega) (by omega)
    have s2 := step_fast_keep room F k (k + (bytesL n t).length)
    have eK : (F.drop (k : Int).toNat).take (((k : Int) + (bytesL n t).length).toNat - (k : Int).toNat) = bytesL n t := by
      rw [show (k : Int).toNat = k from rfl, show ((k : Int) + (bytesL n t).length).toNat - k = (bytesL n t).length by omega]
      exact h.seg
    rw [eK] at s2
    simp only [List.cons_append, List.nil_append, List.length_cons, List.length_nil] at hc ⊢
    rcases c with _ | _ | c
    · exact ⟨_, rfl, fun e => by omega, lostAll0 hr hF (.inl ⟨_, h⟩)⟩
    · refine ⟨_, by simp only [List.take]; rw [actsFrom_cons s1]; rfl, fun e => by omega, lostAll_keep hr hF (by omega) (by omega) (by omega) (.inl ⟨_, h⟩) (.inl ⟨0, ?_⟩)⟩
      rw [eK]; exact hA
    · obtain ⟨r', e1, e2, e3⟩ := put_tail hr h.num hn1 h.len hu hroom c (by omega)
      refine ⟨r', ?_, fun e => e2 (by omega), e3⟩
      rw [List.take_succ_cons, List.take_succ_cons, actsFrom_cons s1, actsFrom_cons s2]
      exact e1
  · rw [if_neg hlt] at hc ⊢
    have hk : k = 0 := by omega
    have hFe : F = bytesL n t := by
      have := h.seg
      rw [hk, List.drop_zero, List.take_of_length_le (by omega)] at this
      exact this
    simp only [List.nil_append, List.length_cons, List.length_nil] at hc ⊢
    obtain ⟨r', e1, e2, e3⟩ := put_tail hr h.num hn1 h.len hu hroom c (by omega)
    refine ⟨r', ?_, fun e => e2 (by omega), e3⟩
    rw [hFe]
    exact e1

/-- a whole Put by the statements' helper -/
theorem putBR_ok {room : Int} {F : List UInt8} {n : Int} {t : List UInt8} {k : Nat} (u : ByteArray) (hr : 1000 ≤ room ∧ room ≤ 6000000) (hF : (F.length : Int) ≤ room) (h : Holds F n t k) (hn1 : Num (n + 1)) (hu : u.size ≤ 2000000)
    (hroom : ((bytesL n t).length : Int) + (bytesL (n + 1) (bl u)).length ≤ room) : putBR (rib room F []) u = (rib room (bytesL (n + 1) (bl u)) [], true) := by
  unfold putBR
  rw [PutR_ok u hr hF h hn1 hu, if_neg (by omega)]
  obtain ⟨r', e1, e2, _⟩ := put_cut hr hF h hn1 (u := bl u) (by rw [← size_bl]; omega) hroom _ (Nat.le_refl _)
  rw [List.take_of_length_le (Nat.le_refl _)] at e1
  simp only [actedE, actedR]
  rw [e1, e2 rfl]

theorem getR_ok {room : Int} {F : List UInt8} {n : Int} {t : List UInt8} {k : Nat} (hr : 1000 ≤ room ∧ room ≤ 6000000) (hF : (F.length : Int) ≤ room) (h : Holds F n t k) : getR (rib room F []) = .inr (mkB t, n) := by
  have hl := bytesL_len n t h.num.1 h.num.2 h.len
  have hb := h.bound
  unfold getR
  have e : bl (rib room F []).fast = F := bl_mk F
  rw [if_pos (rib_valid0 hr hF), e, if_neg (by omega), h.held]
end Go.Proofs.YtinkdjeanjhkbaaGreatDoor
