/-
  The plain law: put on a sound ribbon.
-/
import Derived.Test.YtinkdjeanjhkbaaGreatDoorPE
namespace Go.Proofs.YtinkdjeanjhkbaaGreatDoor

structure Holds (F : List UInt8) (n : Int) (t : List UInt8) (k : Nat) : Prop where
  held : heldR F = some ((n, t), k)
  seg : (F.drop k).take (bytesL n t).length = bytesL n t
  bound : k + (bytesL n t).length ≤ F.length
  num : Num n
  len : t.length < 100000000

theorem holds_torn {n : Int} {t torn : List UInt8} (hn : Num n) (ht : t.length < 100000000) (h : readL torn = none) : Holds (bytesL n t ++ torn) n t 0 :=
  ⟨heldR_torn hn ht h, by rw [List.drop_zero, List.take_left' rfl], by simp, hn, ht⟩
theorem holds_one {n : Int} {t : List UInt8} (hn : Num n) (ht : t.length < 100000000) : Holds (bytesL n t) n t 0 := by
  have := holds_torn (torn := []) hn ht readL_nil
  rwa [List.append_nil] at this
theorem holds_next {n : Int} {t u : List UInt8} (hn : Num n) (hn1 : Num (n + 1)) (ht : t.length < 100000000) (hu : u.length < 100000000) : Holds (bytesL n t ++ bytesL (n + 1) u) (n + 1) u (bytesL n t).length :=
  ⟨heldR_next hn hn1 ht hu, by rw [List.drop_left' rfl, List.take_of_length_le (Nat.le_refl _)], by simp, hn1, hu⟩

/-- the actions of a Put -/
def putList (F : List UInt8) (k L : Nat) (B : List UInt8) : List RAct :=
  (if L < F.length then [keepAct k (k + L), fastAct] else []) ++ [addAct (mkB B), fastAct, keepAct L (L + B.length), fastAct]

theorem wrap_num {n : Int} (h : Num (n + 1)) : RowKit.wrap64 (n + 1) = n + 1 := by
  have := h.1; have := h.2
  unfold RowKit.wrap64; omega

theorem PutR_ok {room : Int} {F : List UInt8} {n : Int} {t : List UInt8} {k : Nat} (u : ByteArray) (hr : 1000 ≤ room ∧ room ≤ 6000000) (hF : (F.length : Int) ≤ room) (h : Holds F n t k) (hn1 : Num (n + 1)) (hu : u.size ≤ 2000000) :
    PutR (rib room F []) u = if room < ((bytesL n t).length : Int) + ((bytesL (n + 1) (bl u)).length : Int) then .inl 263 else .inr (putList F k (bytesL n t).length (bytesL (n + 1) (bl u))) := by
  have hl := bytesL_len n t h.num.1 h.num.2 h.len
  have hb := h.bound
  unfold PutR
  rw [if_pos (rib_valid0 hr hF), if_neg (by omega), if_pos (by rfl)]
  have e : bl (rib room F []).fast = F := bl_mk F
  rw [e]
  unfold putR
  rw [if_neg (by omega), h.held]
  simp only [plen]
  rw [wrap_num hn1]
  rfl
end Go.Proofs.YtinkdjeanjhkbaaGreatDoor
