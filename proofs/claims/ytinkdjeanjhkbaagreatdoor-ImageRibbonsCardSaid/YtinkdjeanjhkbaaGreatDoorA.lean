/-
  Plain definitions for layer 26 (image): actions, ribbons, records as Lean data; what the program's small functions compute. No program in sight.
-/
import Derived.WalkKit
import Derived.WalkSpells
import Derived.WalkLawsBesides
import Derived.Lib.Hide
import Derived.Lib.ItoaNum
import Derived.Lib.Repeat
import Derived.Lib.AtoiAll
import Derived.Lib.Strings
namespace Go.Proofs.YtinkdjeanjhkbaaGreatDoor
open Go.RowKit

structure RAct where
  kind : Int
  text : ByteArray
  frm : Int
  to : Int

def zAct : RAct := ⟨0, ⟨#[]⟩, 0, 0⟩

/-- bytes of a string value as a list -/
def bl (s : ByteArray) : List UInt8 := s.data.toList
/-- a list of bytes as a string value -/
def mkB (l : List UInt8) : ByteArray := ⟨l.toArray⟩

theorem bl_mk (l : List UInt8) : bl (mkB l) = l := by show l.toArray.toList = l; simp
theorem mk_bl (s : ByteArray) : mkB (bl s) = s := Lib.mk_data s
theorem size_bl (s : ByteArray) : s.size = (bl s).length := Lib.size_eq s
theorem bl_append (a b : ByteArray) : bl (a ++ b) = bl a ++ bl b := by simp [bl, ByteArray.data_append]
theorem bl_extract (s : ByteArray) (a b : Nat) : bl (s.extract a b) = ((bl s).drop a).take (b - a) := Lib.extract_data s a b
theorem bl_inj {a b : ByteArray} (h : bl a = bl b) : a = b := by rw [← mk_bl a, ← mk_bl b, h]
theorem size_mkB (l : List UInt8) : (mkB l).size = l.length := by rw [size_bl, bl_mk]
theorem mkB_append (a b : List UInt8) : mkB a ++ mkB b = mkB (a ++ b) := bl_inj (by rw [bl_append, bl_mk, bl_mk, bl_mk])
theorem bl_nil_iff (s : ByteArray) : s.toList = [] ↔ s.size = 0 := by
  rw [Lib.toList_data, Lib.size_eq]; exact List.length_eq_zero_iff.symm
theorem empty_size {s : ByteArray} (h : s.toList.isEmpty = true) : s.size = 0 := (bl_nil_iff s).1 (by simpa using h)

def RAct.vals (a : RAct) : List Value := [.int .i64 a.kind, .string a.text, .int .i64 a.frm, .int .i64 a.to]

def actOk (a : RAct) : Bool :=
  if a.kind = 1 then decide (1 ≤ a.text.size) && decide (a.text.size ≤ 6000000) && (a.frm == 0) && (a.to == 0)
  else if a.kind = 2 then a.text.toList.isEmpty
  else if a.kind = 3 then a.text.toList.isEmpty && (a.frm == 0) && (a.to == 0)
  else false

theorem actOk_size {a : RAct} (h : actOk a = true) : a.text.size ≤ 6000000 := by
  unfold actOk at h
  split at h
  · simp at h; omega
  · split at h
    · have := empty_size h; omega
    · split at h
      · simp only [Bool.and_eq_true] at h
        have := empty_size h.1.1; omega
      · cases h

/-- what the loop of Check does from action i on, with 'left' bytes of room left -/
def checkFrom (size : Int) : Nat → Int → List RAct → Int
  | _, _, [] => 0
  | i, left, a :: l =>
    if actOk a = false ∨ a.kind = 3 ∨ (a.kind = 2 ∧ (0 < i ∨ a.frm < 0 ∨ a.to < a.frm ∨ size < a.to)) then 260
    else
      if (if a.kind = 2 then left + (size - (a.to - a.frm)) else left) - a.text.size < 0 then 260
      else checkFrom size (i + 1) ((if a.kind = 2 then left + (size - (a.to - a.frm)) else left) - a.text.size) l

def checkR (room : Int) (fast : ByteArray) (l : List RAct) : Int :=
  if room < 1000 ∨ 6000000 < room ∨ room < fast.size then 260 else checkFrom fast.size 0 (room - fast.size) l

theorem drop_acts (l : List RAct) (k : Nat) (h : k < l.length) : l.drop k = l.getD k zAct :: l.drop (k + 1) := by
  rw [List.drop_eq_getElem_cons h]; simp [h]

theorem cf_bad {size q : Int} {k : Nat} {a : RAct} {l : List RAct} (h : actOk a = false ∨ a.kind = 3 ∨ (a.kind = 2 ∧ (0 < k ∨ a.frm < 0 ∨ a.to < a.frm ∨ size < a.to))) :
    260 = checkFrom size k q (a :: l) := by simp only [checkFrom]; rw [if_pos h]

theorem cf_neg {size q : Int} {k : Nat} {a : RAct} {l : List RAct} (hok : actOk a = true) (h3 : ¬ a.kind = 3) (h2 : a.kind = 2 → k = 0 ∧ 0 ≤ a.frm ∧ a.frm ≤ a.to ∧ a.to ≤ size)
    (hq0 : 0 ≤ q) (hq1 : q ≤ 6000000) (hs0 : 0 ≤ size) (hs1 : size ≤ 6000000) {r : Int} (hr : r = if a.kind = 2 then q + (size - (a.to - a.frm)) else q)
    (h : wrap64 (r - a.text.size) < 0) : 260 = checkFrom size k q (a :: l) := by
  have hz := actOk_size hok
  simp only [checkFrom]
  rw [if_neg (by simp only [hok]; simp; refine ⟨h3, fun e => ?_⟩; have := h2 e; omega)]
  rw [← hr, if_pos]
  have : 0 ≤ r ∧ r ≤ 12000000 := by
    rw [hr]; split
    · have := h2 ‹_›; omega
    · omega
  unfold wrap64 at h; omega

theorem cf_go {size q : Int} {k : Nat} {a : RAct} {l : List RAct} (hok : actOk a = true) (h3 : ¬ a.kind = 3) (h2 : a.kind = 2 → k = 0 ∧ 0 ≤ a.frm ∧ a.frm ≤ a.to ∧ a.to ≤ size)
    (hq0 : 0 ≤ q) (hq1 : q ≤ 6000000) (hs0 : 0 ≤ size) (hs1 : size ≤ 6000000) {r : Int} (hr : r = if a.kind = 2 then q + (size - (a.to - a.frm)) else q)
    (h : 0 ≤ wrap64 (r - a.text.size)) :
    checkFrom size k q (a :: l) = checkFrom size (k + 1) (wrap64 (r - a.text.size)) l ∧ wrap64 (r - a.text.size) ≤ r ∧ wrap64 (r - a.text.size) = r - a.text.size ∧ r ≤ q + size := by
  have hz := actOk_size hok
  have hr1 : 0 ≤ r ∧ r ≤ q + size := by
    rw [hr]; split
    · have := h2 ‹_›; omega
    · omega
  have hw : wrap64 (r - a.text.size) = r - a.text.size := by unfold wrap64; omega
  refine ⟨?_, by omega, hw, by omega⟩
  simp only [checkFrom]
  rw [if_neg (by simp only [hok]; simp; refine ⟨h3, fun e => ?_⟩; have := h2 e; omega)]
  rw [← hr, if_neg (by rw [hw] at h; omega), hw]

/-! ### what actions leave -/

def keptL (fast : List UInt8) : List RAct → List UInt8
  | [] => fast
  | a :: _ => if a.kind = 2 then (fast.drop a.frm.toNat).take (a.to.toNat - a.frm.toNat) else fast

def KeepOk (fast : ByteArray) : List RAct → Prop
  | [] => True
  | a :: _ => a.kind = 2 → 0 ≤ a.frm ∧ a.frm ≤ a.to ∧ a.to ≤ fast.size

def addedL : List RAct → List UInt8
  | [] => []
  | a :: l => bl a.text ++ addedL l
theorem addedL_append (l m : List RAct) : addedL (l ++ m) = addedL l ++ addedL m := by
  induction l with
  | nil => rfl
  | cons a l ih => simp [addedL, ih]
theorem addedL_take (l : List RAct) (k : Nat) (h : k < l.length) : addedL (l.take (k + 1)) = addedL (l.take k) ++ bl (l.getD k zAct).text := by
  rw [List.take_succ_eq_append_getElem h, addedL_append]; simp [addedL, h]
theorem addedL_le (l : List RAct) (k : Nat) : (addedL (l.take k)).length ≤ (addedL l).length := by
  conv => rhs; rw [← List.take_append_drop k l, addedL_append]
  simp


def Plain (l : List RAct) : Prop := ∀ a, a ∈ l → actOk a = true ∧ a.kind = 1
def Shape : List RAct → Prop
  | [] => True
  | a :: l => actOk a = true ∧ (a.kind = 1 ∨ a.kind = 2) ∧ Plain l

theorem kind_of_ok {a : RAct} (h : actOk a = true) : a.kind = 1 ∨ a.kind = 2 ∨ a.kind = 3 := by
  unfold actOk at h
  repeat (split at h; · omega)
  cases h

theorem cf_plain {size q : Int} {k : Nat} {l : List RAct} (hk : 0 < k) (hq : 0 ≤ q) : checkFrom size k q l = 0 ↔ Plain l ∧ (addedL l).length ≤ q := by
  induction l generalizing k q with
  | nil => simp [checkFrom, Plain, addedL, hq]
  | cons a l ih =>
    simp only [checkFrom]
    by_cases h : actOk a = false ∨ a.kind = 3 ∨ (a.kind = 2 ∧ (0 < k ∨ a.frm < 0 ∨ a.to < a.frm ∨ size < a.to))
    · rw [if_pos h]
      refine ⟨fun e => by omega, fun ⟨e, _⟩ => ?_⟩
      obtain ⟨h1, h2⟩ := e a (by simp)
      rcases h with h | h | h
      · rw [h1] at h; cases h
      · omega
      · omega
    · rw [if_neg h]
      have hok : actOk a = true := by
        cases e : actOk a with
        | true => rfl
        | false => exact absurd (Or.inl e) h
      have h1 : a.kind = 1 := by
        rcases kind_of_ok hok with e | e | e
        · exact e
        · exact absurd (Or.inr (Or.inr ⟨e, Or.inl hk⟩)) h
        · exact absurd (Or.inr (Or.inl e)) h
      rw [if_neg (by omega : ¬ a.kind = 2)]
      have hlen : (addedL (a :: l)).length = a.text.size + (addedL l).length := by simp [addedL, size_bl]
      by_cases hn : q - a.text.size < 0
      · rw [if_pos hn]
        refine ⟨fun e => by omega, fun ⟨_, e⟩ => ?_⟩
        rw [hlen] at e; omega
      · rw [if_neg hn, ih (by omega) (by omega), hlen]
        constructor
        · rintro ⟨hp, hl⟩
          refine ⟨fun b hb => ?_, by omega⟩
          rcases List.mem_cons.1 hb with rfl | hb
          · exact ⟨hok, h1⟩
          · exact hp b hb
        · rintro ⟨hp, hl⟩
          exact ⟨fun b hb => hp b (List.mem_cons_of_mem _ hb), by omega⟩

theorem cf_01 {size q : Int} {k : Nat} {l : List RAct} : checkFrom size k q l = 0 ∨ checkFrom size k q l = 260 := by
  induction l generalizing k q with
  | nil => exact Or.inl rfl
  | cons a l ih =>
    simp only [checkFrom]
    by_cases h1 : actOk a = false ∨ a.kind = 3 ∨ (a.kind = 2 ∧ (0 < k ∨ a.frm < 0 ∨ a.to < a.frm ∨ size < a.to))
    · rw [if_pos h1]; exact Or.inr rfl
    · rw [if_neg h1]
      by_cases h2 : (if a.kind = 2 then q + (size - (a.to - a.frm)) else q) - a.text.size < 0
      · rw [if_pos h2]; exact Or.inr rfl
      · rw [if_neg h2]; exact ih
theorem check_01 (room : Int) (fast : ByteArray) (l : List RAct) : checkR room fast l = 0 ∨ checkR room fast l = 260 := by
  unfold checkR; split
  · exact Or.inr rfl
  · exact cf_01

theorem keptL_len (fast : List UInt8) (a : RAct) (l : List RAct) (h2 : a.kind = 2) (h : 0 ≤ a.frm ∧ a.frm ≤ a.to ∧ a.to ≤ fast.length) : ((keptL fast (a :: l)).length : Int) = a.to - a.frm := by
  simp only [keptL]; rw [if_pos h2]; simp; omega

/-- what a valid ribbon is -/
theorem valid_iff (room : Int) (fast : ByteArray) (l : List RAct) :
    checkR room fast l = 0 ↔ 1000 ≤ room ∧ room ≤ 6000000 ∧ fast.size ≤ room ∧ Shape l ∧ KeepOk fast l ∧ (keptL (bl fast) l).length + (addedL l).length ≤ room := by
  unfold checkR
  split
  · refine ⟨fun e => by omega, fun e => by omega⟩
  · rename_i h
    cases l with
    | nil => simp [checkFrom, Shape, KeepOk, keptL, addedL, ← size_bl]; omega
    | cons a l =>
      simp only [checkFrom, Shape, KeepOk]
      by_cases h1 : actOk a = false ∨ a.kind = 3 ∨ (a.kind = 2 ∧ (0 < 0 ∨ a.frm < 0 ∨ a.to < a.frm ∨ (fast.size : Int) < a.to))
      · rw [if_pos h1]
        refine ⟨fun e => by omega, fun ⟨_, _, _, ⟨e1, e2, _⟩, e3, _⟩ => ?_⟩
        rcases h1 with h1 | h1 | h1
        · rw [e1] at h1; cases h1
        · omega
        · have := e3 h1.1; omega
      · rw [if_neg h1]
        have hok : actOk a = true := by
          cases e : actOk a with
          | true => rfl
          | false => exact absurd (Or.inl e) h1
        have hk3 : a.kind ≠ 3 := fun e => h1 (Or.inr (Or.inl e))
        have hk2 : a.kind = 2 → 0 ≤ a.frm ∧ a.frm ≤ a.to ∧ a.to ≤ fast.size := fun e => by
          have : ¬ (0 < 0 ∨ a.frm < 0 ∨ a.to < a.frm ∨ (fast.size : Int) < a.to) := fun e' => h1 (Or.inr (Or.inr ⟨e, e'⟩))
          omega
        have hkind : a.kind = 1 ∨ a.kind = 2 := by rcases kind_of_ok hok with e | e | e <;> omega
        have hlen : (addedL (a :: l)).length = a.text.size + (addedL l).length := by simp [addedL, size_bl]
        have hkl : ((if a.kind = 2 then room - fast.size + (fast.size - (a.to - a.frm)) else room - fast.size) : Int) = room - (keptL (bl fast) (a :: l)).length := by
          split
          · rw [keptL_len (bl fast) a l ‹_› (by have := hk2 ‹_›; rw [← size_bl]; exact this)]; omega
          · simp only [keptL]; rw [if_neg ‹_›, ← size_bl]
        rw [hkl]
        split
        · refine ⟨fun e => by omega, fun ⟨_, _, _, _, _, e⟩ => ?_⟩
          rw [hlen] at e; omega
        · rw [cf_plain (by omega) (by omega), hlen]
          constructor
          · rintro ⟨hp, hl⟩
            exact ⟨by omega, by omega, by omega, ⟨hok, hkind, hp⟩, hk2, by omega⟩
          · rintro ⟨_, _, _, ⟨_, _, hp⟩, _, hl⟩
            exact ⟨hp, by omega⟩

/-! ### ribbons -/

structure Rib where
  room : Int
  fast : ByteArray
  acts : List RAct

def Rib.valid (r : Rib) : Prop := checkR r.room r.fast r.acts = 0
instance (r : Rib) : Decidable r.valid := inferInstanceAs (Decidable (_ = _))

/-- what has become fast -/
def fastened (r : Rib) : Rib := { r with fast := mkB (keptL (bl r.fast) r.acts ++ addedL r.acts), acts := [] }

def actStep (r : Rib) (a : RAct) : Option Rib :=
  if actOk a = false then none
  else if a.kind = 3 then some (fastened r)
  else if ({ r with acts := r.acts ++ [a] } : Rib).valid then some { r with acts := r.acts ++ [a] } else none

def actsFrom : Rib → List RAct → Option Rib
  | r, [] => some r
  | r, a :: l => match actStep r a with
    | none => none
    | some r' => actsFrom r' l

def actR (r : Rib) (l : List RAct) : Option Rib := if r.valid then actsFrom r l else none

theorem fastened_valid {r : Rib} (h : r.valid) : (fastened r).valid := by
  obtain ⟨h1, h2, h3, h4, h5, h6⟩ := (valid_iff _ _ _).1 h
  refine (valid_iff _ _ _).2 ⟨h1, h2, ?_, trivial, trivial, ?_⟩
  · simp only [fastened, size_mkB, List.length_append]; omega
  · show ((keptL (bl (mkB (keptL (bl r.fast) r.acts ++ addedL r.acts))) []).length : Int) + (addedL []).length ≤ r.room
    have e : keptL (bl (mkB (keptL (bl r.fast) r.acts ++ addedL r.acts))) [] = keptL (bl r.fast) r.acts ++ addedL r.acts := bl_mk _
    rw [e, List.length_append]; simp [addedL]; omega

theorem actStep_valid {r r' : Rib} {a : RAct} (h : r.valid) (hs : actStep r a = some r') : r'.valid := by
  unfold actStep at hs
  split at hs
  · cases hs
  · split at hs
    · cases hs; exact fastened_valid h
    · split at hs
      · cases hs; assumption
      · cases hs

theorem plain_len {l : List RAct} (h : Plain l) : l.length ≤ (addedL l).length := by
  induction l with
  | nil => simp
  | cons a l ih =>
    obtain ⟨h1, h2⟩ := h a (by simp)
    have h3 : 1 ≤ a.text.size := by unfold actOk at h1; rw [if_pos h2] at h1; simp at h1; omega
    have := ih (fun b hb => h b (List.mem_cons_of_mem _ hb))
    simp only [addedL, List.length_append, List.length_cons, ← size_bl]; omega
theorem valid_len {r : Rib} (h : r.valid) : r.acts.length ≤ 6000001 := by
  obtain ⟨h1, h2, h3, h4, h5, h6⟩ := (valid_iff _ _ _).1 h
  cases hl : r.acts with
  | nil => simp
  | cons a l =>
    rw [hl] at h4 h6
    have := plain_len h4.2.2
    have e : (addedL (a :: l)).length = a.text.size + (addedL l).length := by simp [addedL, size_bl]
    rw [e] at h6
    simp only [List.length_cons]; omega

/-- what is fast after a loss of power -/
def loseL (room : Int) (base s : List UInt8) (b c : Int) : List UInt8 :=
  let k := (b % (s.length + 1)).toNat
  let n := (c % (k + 1)).toNat
  let t := s.take (k - n) ++ List.replicate n 126
  base ++ t.take (min t.length (room - base.length).toNat)

def loseR (r : Rib) (a b c : Int) : Option Rib :=
  if r.valid then some ⟨r.room, mkB (loseL r.room (if a % 2 = 1 then keptL (bl r.fast) r.acts else bl r.fast) (addedL r.acts) b c), []⟩ else none

/-! ### records -/

def sumStep (n : Int) (c : UInt8) : Int := (n * 31 + (c.toNat : Int) + 1) % 2147483647
def sumL (l : List UInt8) : Int := l.foldl sumStep 1
def digitsL (n many : Int) : List UInt8 := List.replicate (many - (Lib.itoa n).length).toNat 48 ++ Lib.itoa n
def sealedL (l : List UInt8) : List UInt8 := l ++ digitsL (sumL l) 10
def magicL : List UInt8 := [115, 107, 114, 32]
def bytesL (num : Int) (text : List UInt8) : List UInt8 :=
  sealedL (magicL ++ digitsL num 12 ++ digitsL text.length 8) ++ text ++ digitsL (sumL text) 10 ++ [46]

theorem sum_bound (l : List UInt8) : ∀ n : Int, 0 ≤ n → n < 2147483647 → 0 ≤ l.foldl sumStep n ∧ l.foldl sumStep n < 2147483647 := by
  induction l with
  | nil => intro n h0 h1; exact ⟨h0, h1⟩
  | cons c l ih => intro n h0 h1; exact ih _ (by unfold sumStep; omega) (by unfold sumStep; omega)
theorem sumL_bound (l : List UInt8) : 0 ≤ sumL l ∧ sumL l < 2147483647 := sum_bound l 1 (by omega) (by omega)

/-! ### reading a record -/

def atoiOk (l : List UInt8) : Option Int := match Lib.atoiAll l with
  | .ok v => some v
  | _ => none

theorem atoiOk_bound {l : List UInt8} {v : Int} (h : atoiOk l = some v) : -9223372036854775808 ≤ v ∧ v ≤ 9223372036854775807 := by
  unfold atoiOk Lib.atoiAll at h
  cases l with
  | nil => cases h
  | cons c r =>
    simp only at h
    split at h
    · rename_i e
      split at e
      · cases e
      · cases e
      · split at e
        · cases e
        · split at e
          · cases e
          · injection e with e
            injection h with h
            subst h; subst e
            split <;> omega
    · cases h

def readL (s : List UInt8) : Option (Int × List UInt8) :=
  if s.length < 34 then none
  else match atoiOk ((s.drop 4).take 12), atoiOk ((s.drop 16).take 8) with
    | some n, some k =>
      if n < 0 ∨ k < 0 ∨ s.length - 34 < k then none
      else if Lib.hasPrefix s (bytesL n ((s.drop 34).take k.toNat)) = true then some (n, (s.drop 34).take k.toNat) else none
    | _, _ => none

theorem nDigits_lt (k u : Nat) (h : u < 10 ^ (k + 1)) : Lib.nDigits u ≤ k + 1 := by
  induction k generalizing u with
  | zero => rw [Lib.nDigits_small (by simpa using h)]; omega
  | succ k ih =>
    by_cases h10 : u < 10
    · rw [Lib.nDigits_small h10]; omega
    · rw [Lib.nDigits_big h10]
      have := ih (u / 10) (by rw [Nat.pow_succ] at h; omega)
      omega
theorem digitsL_len (n : Int) (k : Nat) (h0 : 0 ≤ n) (h : n.toNat < 10 ^ (k + 1)) : (digitsL n ((k : Int) + 1)).length = k + 1 := by
  have hn := nDigits_lt k n.toNat h
  have hi : (Lib.itoa n).length = Lib.nDigits n.toNat := by unfold Lib.itoa; rw [if_neg (by omega), Lib.decDigits_length]
  simp only [digitsL, List.length_append, List.length_replicate, hi]
  omega
theorem sealedL_len (l : List UInt8) : (sealedL l).length = l.length + 10 := by
  have hb := sumL_bound l
  simp only [sealedL, List.length_append]
  rw [show ((10 : Int)) = ((9 : Nat) : Int) + 1 from rfl, digitsL_len _ 9 (by omega) (by omega)]
theorem bytesL_len (n : Int) (t : List UInt8) (h0 : 0 ≤ n) (h : n < 1000000000000) (ht : t.length < 100000000) : (bytesL n t).length = t.length + 45 := by
  have hb := sumL_bound t
  simp only [bytesL, List.length_append, sealedL_len]
  rw [show ((12 : Int)) = ((11 : Nat) : Int) + 1 from rfl, digitsL_len n 11 h0 (by omega)]
  rw [show ((8 : Int)) = ((7 : Nat) : Int) + 1 from rfl, digitsL_len _ 7 (by omega) (by omega)]
  rw [show ((10 : Int)) = ((9 : Nat) : Int) + 1 from rfl, digitsL_len _ 9 (by omega) (by omega)]
  simp [magicL]; omega

def plen (p : Int × List UInt8) : Nat := (bytesL p.1 p.2).length
def heldR (fast : List UInt8) : Option ((Int × List UInt8) × Nat) :=
  match readL fast with
  | none => none
  | some p => match readL (fast.drop (plen p)) with
    | none => some (p, 0)
    | some q => if q.1 = wrap64 (p.1 + 1) ∧ plen p + plen q = fast.length then some (q, plen p) else some (p, 0)

end Go.Proofs.YtinkdjeanjhkbaaGreatDoor
