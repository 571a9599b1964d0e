/-
  The plain law: a record is read back; a torn one is none; one changed byte is seen.
-/
import Derived.Test.YtinkdjeanjhkbaaGreatDoorPA
namespace Go.Proofs.YtinkdjeanjhkbaaGreatDoor

theorem len12 (n : Int) (h0 : 0 ≤ n) (h : n < 1000000000000) : (digitsL n 12).length = 12 := by
  rw [show ((12 : Int)) = ((11 : Nat) : Int) + 1 from rfl, digitsL_len n 11 h0 (by omega)]
theorem len8 (t : List UInt8) (h : t.length < 100000000) : (digitsL t.length 8).length = 8 := by
  rw [show ((8 : Int)) = ((7 : Nat) : Int) + 1 from rfl, digitsL_len _ 7 (by omega) (by omega)]
theorem len10 (l : List UInt8) : (digitsL (sumL l) 10).length = 10 := by
  have hb := sumL_bound l
  rw [show ((10 : Int)) = ((9 : Nat) : Int) + 1 from rfl, digitsL_len _ 9 (by omega) (by omega)]

def headL (n : Int) (k : Nat) : List UInt8 := magicL ++ digitsL n 12 ++ digitsL k 8
theorem bytesL_eq (n : Int) (t : List UInt8) : bytesL n t = headL n t.length ++ (digitsL (sumL (headL n t.length)) 10 ++ (t ++ (digitsL (sumL t) 10 ++ [46]))) := by
  simp [bytesL, sealedL, headL]
theorem headL_len (n : Int) (t : List UInt8) (h0 : 0 ≤ n) (h : n < 1000000000000) (ht : t.length < 100000000) : (headL n t.length).length = 24 := by
  simp only [headL, List.length_append, len12 n h0 h, len8 t ht]
  rfl

theorem readL_bytes (n : Int) (t rest : List UInt8) (h0 : 0 ≤ n) (h : n < 1000000000000) (ht : t.length < 100000000) : readL (bytesL n t ++ rest) = some (n, t) := by
  obtain ⟨m, rfl⟩ := Int.eq_ofNat_of_zero_le h0
  have hl := bytesL_len m t h0 h ht
  have l12 := len12 m h0 h
  have l8 := len8 t ht
  have lc := len10 (headL m t.length)
  have e : bytesL m t ++ rest = magicL ++ (digitsL m 12 ++ (digitsL t.length 8 ++ (digitsL (sumL (headL m t.length)) 10 ++ (t ++ (digitsL (sumL t) 10 ++ [46] ++ rest))))) := by
    rw [bytesL_eq]; simp [headL]
  have d4 : ((bytesL m t ++ rest).drop 4).take 12 = digitsL m 12 := by
    rw [e, List.drop_left' (by rfl), List.take_left' l12]
  have d16 : ((bytesL m t ++ rest).drop 16).take 8 = digitsL t.length 8 := by
    rw [e, ← List.append_assoc, List.drop_left' (by simp [l12, magicL]), List.take_left' l8]
  have d34 : ((bytesL m t ++ rest).drop 34).take t.length = t := by
    rw [e, ← List.append_assoc, ← List.append_assoc, ← List.append_assoc, List.drop_left' (by simp [l12, l8, lc, magicL]), List.take_left' rfl]
  unfold readL
  rw [if_neg (by rw [List.length_append, hl]; omega), d4, d16, atoiOk_digits m 12 (by omega), atoiOk_digits t.length 8 (by omega)]
  simp only
  rw [if_neg (by rw [List.length_append, hl]; omega), show ((t.length : Int)).toNat = t.length from rfl, d34, if_pos]
  rw [Lib.hasPrefix, List.isPrefixOf_iff_prefix]
  exact List.prefix_append _ _

theorem atoiOk_bound' {l : List UInt8} {v : Int} (hl : l.length ≤ 18) (h : atoiOk l = some v) : v < ((10 ^ l.length : Nat) : Int) := by
  unfold atoiOk at h
  rw [Lib.atoiAll_short _ hl] at h
  cases ha : Lib.atoi l with
  | none => rw [ha] at h; cases h
  | some u =>
    rw [ha] at h
    have hu : u = v := by simpa [Lib.NumEnd.ofOption] using h
    subst hu
    have hb' : ∀ m r, r.length ≤ l.length → Lib.decFrom 0 r = some m → m < 10 ^ l.length := by
      intro m r hr hm
      have h1 := Lib.decFrom_lt r 0 m hm
      have h2 : 10 ^ r.length ≤ 10 ^ l.length := Nat.pow_le_pow_right (by decide) hr
      omega
    have hp : 0 < 10 ^ l.length := Nat.pow_pos (by decide)
    obtain ⟨b0, r, rfl, hc⟩ := Lib.atoi_cases ha
    rcases hc with ⟨_, m, _, hm, rfl⟩ | ⟨_, m, _, hm, rfl⟩ | ⟨_, _, m, hm, rfl⟩
    · omega
    · have := hb' m r (by simp) hm
      omega
    · have := hb' m _ (Nat.le_refl _) hm
      omega

theorem readL_inv {s t : List UInt8} {n : Int} (h : readL s = some (n, t)) : 0 ≤ n ∧ n < 1000000000000 ∧ t.length < 100000000 ∧ ∃ rest, s = bytesL n t ++ rest := by
  unfold readL at h
  split at h
  · cases h
  · rename_i hlen
    split at h
    · rename_i n' k hn hk
      split at h
      · cases h
      · rename_i hc
        split at h
        · rename_i hp
          injection h with h
          injection h with h1 h2
          subst h1; subst h2
          have b1 := atoiOk_bound' (by simp; omega) hn
          have b2 := atoiOk_bound' (by simp; omega) hk
          have e1 : ((s.drop 4).take 12).length = 12 := by simp; omega
          have e2 : ((s.drop 16).take 8).length = 8 := by simp; omega
          rw [e1] at b1
          rw [e2] at b2
          rw [Lib.hasPrefix, List.isPrefixOf_iff_prefix] at hp
          obtain ⟨rest, hr⟩ := hp
          refine ⟨by omega, by omega, ?_, rest, hr.symm⟩
          simp only [List.length_take]
          omega
        · cases h
    · cases h
end Go.Proofs.YtinkdjeanjhkbaaGreatDoor
