/-
  The walks of image.isNumber and of Words's closure, at the two texts of the examples.
-/
import Derived.Test.YtinkdjeanjhkbaaGreatDoorS
namespace Go.Proofs.YtinkdjeanjhkbaaGreatDoor
open Go.RowKit
attribute [local go_sem] size_mkB

set_option maxHeartbeats 800000 in
set_option maxRecDepth 100000 in
theorem isNumber_some (s d : ByteArray) (w : World) (ht : Lib.trimPrefix (bl s) [45] = bl d) (h2 : 2 ≤ d.size) (hs : d.size ≤ 100000) (hall : ∀ j, (h : j < d.size) → 48 ≤ d[j].toNat ∧ d[j].toNat ≤ 57) :
    Calls Tryz.prog 36 #[.string s] w fun e w' => e = .returned (.bool ((d[0].toNat : Int) != 48)) ∧ w' = w := by
  have htp : Calls Tryz.prog 56 #[.string s, .string ⟨#[45]⟩] w fun e w' => e = .returned (.string d) ∧ w' = w := by
    have := Tryz.strings_TrimPrefix s ⟨#[45]⟩ w
    have e : (⟨(Lib.trimPrefix s.data.toList (⟨#[45]⟩ : ByteArray).data.toList).toArray⟩ : ByteArray) = d := by
      show mkB (Lib.trimPrefix (bl s) [45]) = d
      rw [ht, mk_bl]
    rw [e] at this
    exact this
  have HTP := Lib.hid htp
  have hne0 : (d.toList == [48]) = false := by
    rw [Lib.toList_data, beq_eq_false_iff_ne]
    intro e
    have := congrArg List.length e
    rw [← Lib.size_eq] at this
    simp only [List.length_cons, List.length_nil] at this
    omega
  have hne1 : d.toList.isEmpty = false := by
    rw [Lib.toList_data]
    cases hd : d.data.toList with
    | nil =>
      have := congrArg List.length hd
      rw [← Lib.size_eq] at this
      simp only [List.length_nil] at this
      omega
    | cons _ _ => rfl
  clear htp ht
  go_enter Tryz.func36, Tryz.ntmps36
  go_wp2_with (go_at_call 56; refine HTP.out.mono ?_; rintro e w1 ⟨rfl, rfl⟩)
  go_loop [9] (fun i => ∃ (k : Nat), k ≤ d.size ∧ i = .int .i64 k) (fun i => d.size - (intOf i).toNat)
  case atStart => exact ⟨0, Nat.zero_le _, rfl⟩
  case round =>
    obtain ⟨k, hk, rfl⟩ := hrel
    by_cases hlt : k < d.size
    · obtain ⟨hd0, hd1⟩ := hall k hlt
      have hd0' : ¬ ((d[k].toNat : Int) < 48) := by omega
      have hd1' : ¬ ((57 : Int) < (d[k].toNat : Int)) := by omega
      go_wp2
      all_goals
        go_round
        case rel => exact ⟨k + 1, by omega, by go_num⟩
        case measure => simp [intOf]; omega
    · go_wp2
      go_ret
      exact ⟨rfl, rfl⟩
end Go.Proofs.YtinkdjeanjhkbaaGreatDoor
