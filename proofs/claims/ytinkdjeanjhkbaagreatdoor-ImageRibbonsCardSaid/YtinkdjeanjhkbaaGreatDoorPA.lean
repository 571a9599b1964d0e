/-
  The plain law: what is written as a record is read as that record.
-/
import Derived.Test.YtinkdjeanjhkbaaGreatDoorA
import Derived.Lib.AtoiTie
namespace Go.Proofs.YtinkdjeanjhkbaaGreatDoor

theorem decFrom_append (a b : List UInt8) : ∀ acc, Lib.decFrom acc (a ++ b) = (Lib.decFrom acc a).bind fun v => Lib.decFrom v b := by
  induction a with
  | nil => intro acc; rfl
  | cons c a ih =>
    intro acc
    simp only [List.cons_append, Lib.decFrom]
    cases Lib.digitVal c with
    | none => rfl
    | some d => exact ih _

theorem digitVal_of (d : Nat) (h : d < 10) : Lib.digitVal (UInt8.ofNat (48 + d)) = some d := by
  have e : (UInt8.ofNat (48 + d)).toNat = 48 + d := by simp; omega
  simp only [Lib.digitVal, e]
  rw [if_pos (by omega)]
  congr 1
  omega

theorem decFrom_digits : ∀ u, Lib.decFrom 0 (Lib.decDigits u) = some u := by
  intro u
  induction u using Nat.strongRecOn with
  | _ u ih =>
    by_cases h : u < 10
    · rw [Lib.decDigits, dif_pos h]
      simp only [Lib.decFrom, digitVal_of u h]
      simp
    · rw [Lib.decDigits, dif_neg h, decFrom_append, ih (u / 10) (by omega)]
      simp only [Option.bind, Lib.decFrom, digitVal_of (u % 10) (by omega)]
      congr 1
      omega

theorem decFrom_zeros : ∀ k, Lib.decFrom 0 (List.replicate k 48) = some 0 := by
  intro k
  induction k with
  | zero => rfl
  | succ k ih =>
    rw [List.replicate_succ]
    have : Lib.digitVal 48 = some 0 := by decide
    simp only [Lib.decFrom, this]
    exact ih

theorem itoa_nat (n : Nat) : Lib.itoa (n : Int) = Lib.decDigits n := by
  unfold Lib.itoa
  rw [if_neg (by omega)]
  rfl

theorem digitsL_dec (n : Nat) (k : Int) : Lib.decFrom 0 (digitsL n k) = some n := by
  unfold digitsL
  rw [decFrom_append, decFrom_zeros, itoa_nat]
  exact decFrom_digits n

theorem atoiOk_digits (n : Nat) (k : Int) (h : (digitsL n k).length ≤ 18) : atoiOk (digitsL n k) = some (n : Int) := by
  have hd := digitsL_dec n k
  unfold atoiOk
  rw [Lib.atoiAll_short _ h]
  cases hl : digitsL n k with
  | nil =>
    have h1 : (digitsL n k).length = 0 := by rw [hl]; rfl
    have h2 := Lib.nDigits_pos n
    unfold digitsL at h1
    rw [itoa_nat, List.length_append, Lib.decDigits_length] at h1
    omega
  | cons b r =>
    rw [hl] at hd
    have hb : b ≠ 45 ∧ b ≠ 43 := by
      constructor
      · rintro rfl
        have : Lib.digitVal 45 = none := by decide
        simp [Lib.decFrom, this] at hd
      · rintro rfl
        have : Lib.digitVal 43 = none := by decide
        simp [Lib.decFrom, this] at hd
    have e : Lib.atoi (b :: r) = some (n : Int) := by
      simp [Lib.atoi, hb.1, hb.2, Lib.decNat, hd]
    rw [e]
    rfl
end Go.Proofs.YtinkdjeanjhkbaaGreatDoor
