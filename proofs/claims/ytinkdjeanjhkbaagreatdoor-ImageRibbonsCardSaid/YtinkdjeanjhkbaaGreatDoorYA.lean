/-
  The walks of the reference's functions on ribbons: kept, rest, Right; what Right asks, action by action.
-/
import Derived.Test.YtinkdjeanjhkbaaGreatDoorP
namespace Go.Proofs.YtinkdjeanjhkbaaGreatDoor
open Go.RowKit
attribute [local go_sem] size_mkB

/-! ### what is asked of an action, as the reference says it -/

def goodA (a : RAct) : Bool := (a.kind == 1) && (a.frm == 0) && (a.to == 0) && decide (1 ≤ a.text.size) && decide (a.text.size ≤ 6000000)
def goodK (size : Nat) (a : RAct) : Bool := (a.kind == 2) && a.text.toList.isEmpty && decide (0 ≤ a.frm) && decide (a.frm ≤ a.to) && decide (a.to ≤ size)
def good (size i : Nat) (a : RAct) : Bool := goodA a || ((i == 0) && goodK size a)

theorem goodA_iff (a : RAct) : goodA a = true ↔ actOk a = true ∧ a.kind = 1 := by
  unfold goodA actOk
  by_cases h : a.kind = 1
  · simp [h]; omega
  · simp [h]
theorem goodK_iff (fast : ByteArray) (a : RAct) (l : List RAct) : goodK fast.size a = true ↔ actOk a = true ∧ a.kind = 2 ∧ KeepOk fast (a :: l) := by
  unfold goodK actOk KeepOk
  by_cases h : a.kind = 2
  · simp [h, and_assoc]
  · simp [h]
theorem plain_iff (l : List RAct) (size k : Nat) (hk : 0 < k) : Plain l ↔ ∀ i, i < l.length → good size (k + i) (l.getD i zAct) = true := by
  have h0 : ∀ i, good size (k + i) (l.getD i zAct) = goodA (l.getD i zAct) := fun i => by
    unfold good
    have : ((k + i == 0) : Bool) = false := by simp; omega
    rw [this]; simp
  simp only [h0, goodA_iff]
  unfold Plain
  constructor
  · intro h i hi
    exact h _ (by simp [hi])
  · intro h a ha
    obtain ⟨i, hi, rfl⟩ := List.mem_iff_getElem.1 ha
    simpa [hi] using h i hi

theorem right_iff (room : Int) (fast : ByteArray) (l : List RAct) :
    checkR room fast l = 0 ↔ 1000 ≤ room ∧ room ≤ 6000000 ∧ (fast.size : Int) ≤ room ∧ (∀ i, i < l.length → good fast.size i (l.getD i zAct) = true) ∧ ((keptL (bl fast) l).length : Int) + (addedL l).length ≤ room := by
  rw [valid_iff]
  cases l with
  | nil => simp [Shape, KeepOk]
  | cons a l =>
    have hp := plain_iff l fast.size 1 (by decide)
    have ha : (actOk a = true ∧ (a.kind = 1 ∨ a.kind = 2)) ∧ KeepOk fast (a :: l) ↔ good fast.size 0 a = true := by
      unfold good
      rw [Bool.or_eq_true, goodA_iff, Bool.and_eq_true, goodK_iff fast a l]
      constructor
      · rintro ⟨⟨h1, h2 | h2⟩, h3⟩
        · exact .inl ⟨h1, h2⟩
        · exact .inr ⟨rfl, h1, h2, h3⟩
      · rintro (⟨h1, h2⟩ | ⟨_, h1, h2, h3⟩)
        · exact ⟨⟨h1, .inl h2⟩, fun e => by omega⟩
        · exact ⟨⟨h1, .inr h2⟩, h3⟩
    constructor
    · rintro ⟨h1, h2, h3, ⟨h4, h5, h6⟩, h7, h8⟩
      refine ⟨h1, h2, h3, fun i hi => ?_, h8⟩
      cases i with
      | zero => exact ha.1 ⟨⟨h4, h5⟩, h7⟩
      | succ i =>
        have := hp.1 h6 i (by simpa using hi)
        simpa [Nat.add_comm] using this
    · rintro ⟨h1, h2, h3, h4, h8⟩
      obtain ⟨⟨g1, g2⟩, g3⟩ := ha.2 (by simpa using h4 0 (by simp))
      refine ⟨h1, h2, h3, ⟨g1, g2, hp.2 fun i hi => ?_⟩, g3, h8⟩
      have := h4 (i + 1) (by simpa using hi)
      simpa [Nat.add_comm] using this

set_option maxHeartbeats 400000 in
theorem rest_any (n m : Int) (w : World) (hm : 0 < m) (hm2 : m ≤ 4611686018427387904) :
    Calls Tryz.prog 30 #[.int .i64 n, .int .i64 m] w fun e w' => e = .returned (.int .i64 (n % m)) ∧ w = w' := by
  have h0 : m ≠ 0 := by omega
  go_enter Tryz.func30, Tryz.ntmps30
  go_wp2
  go_ret
  refine ⟨ret_int ?_, rfl⟩
  have e1 : n.tmod m + m = wrap64 (n.tmod m + m) := by
    have h1 := Int.tmod_lt_of_pos n hm
    have h2 : -m < n.tmod m := Int.lt_tmod_of_pos n hm
    unfold wrap64; omega
  have h2 : -m < n.tmod m := Int.lt_tmod_of_pos n hm
  rw [← e1, Int.tmod_eq_emod_of_nonneg (by omega), Int.add_emod_right]
  rw [Int.tmod_eq_emod]
  split
  · simp
  · rw [show ((m.natAbs : Nat) : Int) = m from by omega]; simp

theorem rest_nat (n m : Int) (w : World) (hm : 0 < m) (hm2 : m ≤ 4611686018427387904) :
    Calls Tryz.prog 30 #[.int .i64 n, .int .i64 m] w fun e w' => ∃ q : Nat, e = .returned (.int .i64 q) ∧ (q : Int) < m ∧ Hid (q = (n % m).toNat) ∧ w = w' := by
  refine (rest_any n m w hm hm2).mono ?_
  rintro e w' ⟨rfl, rfl⟩
  have h0 := Int.emod_nonneg n (by omega : m ≠ 0)
  have h1 := Int.emod_lt_of_pos n hm
  exact ⟨(n % m).toNat, by rw [Int.toNat_of_nonneg h0], by omega, rfl, rfl⟩

set_option maxHeartbeats 800000 in
set_option maxRecDepth 100000 in
theorem rkept_any (room : Int) (fast : ByteArray) (v : Value) (l : List RAct) (w : World) (hl : ActsIn w.heap.size w v l) (hk : KeepOk fast l) (hf : fast.size ≤ 4611686018427387904) :
    Calls Tryz.prog 26 #[.agg #[.int .i64 room, .string fast, v]] w fun e w' => ∃ z : ByteArray, e = .returned (.string z) ∧ z.size ≤ fast.size ∧ Hid (bl z = keptL (bl fast) l) ∧ Below w.heap.size w w' := by
  obtain ⟨A, cap, rfl, hc, ⟨hcm, hcl⟩, hcells⟩ := hl
  cases l with
  | nil =>
    go_enter Tryz.func26, Tryz.ntmps26
    go_wp2
    go_ret
    exact ⟨_, rfl, Nat.le_refl _, rfl, (Below.refl _ _).alloc (Nat.le_refl _) _⟩
  | cons a l =>
    obtain ⟨b, o, rfl, hb, hall⟩ := hcells (by simp)
    obtain ⟨c0, c1, c2, c3⟩ := hall 0 (by simp)
    simp only [List.getD_cons_zero, Nat.zero_mul, Nat.add_zero] at c0 c1 c2 c3
    clear hall hcells
    have hpos : 0 < (a :: l).length := by simp
    generalize (a :: l).length = n at hc hpos
    by_cases h2 : a.kind = 2
    · obtain ⟨hk0, hk1, hk2⟩ := hk h2
      have hb2 : (a.kind == 2) = true := by simp [h2]
      have H2 := Lib.hid h2
      clear h2
      obtain ⟨p, hp⟩ := Int.eq_ofNat_of_zero_le hk0
      obtain ⟨q, hq⟩ := Int.eq_ofNat_of_zero_le (by omega : 0 ≤ a.to)
      rw [hp] at c2 hk0 hk1; rw [hq] at c3 hk1 hk2
      have HP := Lib.hid hp
      have HQ := Lib.hid hq
      clear hp hq
      go_enter Tryz.func26, Tryz.ntmps26
      go_wp2
      go_quiet (fail)
      go_wp2
      go_ret
      refine ⟨_, rfl, ?_, ?_, ?_⟩
      · rw [size_bl, bl_extract, size_bl]; simp; omega
      · simp only [Hid, keptL]; rw [if_pos H2.out, bl_extract, HP.out, HQ.out]; rfl
      · exact below_drewN ((Below.refl _ _).alloc (Nat.le_refl _) _) _
    · have hb2 : (a.kind == 2) = false := by simp [h2]
      have H2 := Lib.hid h2
      clear h2
      go_enter Tryz.func26, Tryz.ntmps26
      go_wp2
      go_ret
      exact ⟨_, rfl, Nat.le_refl _, by simp only [Hid, keptL]; rw [if_neg H2.out], (Below.refl _ _).alloc (Nat.le_refl _) _⟩

end Go.Proofs.YtinkdjeanjhkbaaGreatDoor
