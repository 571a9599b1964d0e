/-
  Parts of a row of actions: l[:k], l[k:].
-/
import Derived.Test.YtinkdjeanjhkbaaGreatDoorYG
namespace Go.Proofs.YtinkdjeanjhkbaaGreatDoor
open Go.RowKit

theorem acts_form {B : Nat} {w : World} {A : Option Addr} {n c : Nat} {l : List RAct} (h : ActsIn B w (.slice A n c) l) : l.length = n ∧ l.length ≤ c ∧ ((l = [] ∧ (A = none → c = 0)) ∨ (0 < l.length ∧ ∃ b o, A = some ⟨b, o, none⟩)) := by
  obtain ⟨A', c', e, hc, ⟨hcm, _⟩, hcells⟩ := h
  injection e with e1 e2 e3
  subst e1; subst e3
  refine ⟨e2.symm, hc, ?_⟩
  cases l with
  | nil => exact Or.inl ⟨rfl, hcm⟩
  | cons a l =>
    obtain ⟨b, o, e, _⟩ := hcells (by simp)
    exact Or.inr ⟨by simp, b, o, e⟩

theorem acts_empty (B : Nat) (w : World) (A : Option Addr) (c : Nat) (h : A = none → c = 0) : ActsIn B w (.slice A ([] : List RAct).length c) [] := ⟨A, c, rfl, Nat.zero_le _, ⟨h, by simp⟩, fun h => by simp at h⟩

set_option maxRecDepth 100000 in
/-- l[:k] -/
theorem acts_head {B : Nat} {w : World} {A : Option Addr} {c : Nat} {l : List RAct} (h : ActsIn B w (.slice A l.length c) l) (k : Nat) (hk : k ≤ l.length) :
    ∃ A', (∀ W : World, (Instr.slice 22 (.slice A l.length c) none (some (.int .i64 (k : Int))) none).run Tryz.prog W = .ok (.slice A' (l.take k).length c) W) ∧
      ∀ w' B', ActsIn B' w' (.slice A l.length c) l → ActsIn B' w' (.slice A' (l.take k).length c) (l.take k) := by
  obtain ⟨-, hlc, hf⟩ := acts_form h
  have hlen : (l.take k).length = k := by simp; omega
  obtain ⟨i0, hi0, hz0, hz1, hz2⟩ := info_parts infoAct
  have hsz : ∀ W : World, (sizeOf 41).run Tryz.prog W = .ok 4 W := fun W => by simp [sizeOf, typeInfo, hi0, hz1]
  have hj : (0 : Int) ≤ (k : Int) ∧ (k : Int) ≤ (c : Int) := ⟨by omega, by omega⟩
  rcases hf with ⟨rfl, hA⟩ | ⟨h0, b, o, rfl⟩
  · obtain rfl : k = 0 := by simpa using hk
    refine ⟨if c = 0 then A else A.map (·.add (0 * 4)), fun W => ?_, fun w' B' _ => ?_⟩
    · simp [Instr.slice, Instr.sliceBounds, Instr.sliceBound, asIntOf, run_underlying Tryz.underlying22, hsz]
    · refine acts_empty _ _ _ _ (fun e => ?_)
      by_cases hc : c = 0
      · exact hc
      · rw [if_neg hc] at e
        cases A with
        | none => exact hA rfl
        | some a => cases e
  · refine ⟨some ⟨b, o, none⟩, fun W => ?_, fun w' B' h' => ?_⟩
    · have hc0 : ¬ c = 0 := by omega
      simp [Instr.slice, Instr.sliceBounds, Instr.sliceBound, asIntOf, run_underlying Tryz.underlying22, hsz, hj, hlen, hc0, addr_add]
      try omega
    · obtain ⟨A', c', e, h2, h3, h4⟩ := h'
      injection e with e1 e2 e3
      subst e1; subst e3
      refine ⟨_, _, rfl, by omega, ⟨h3.1, by omega⟩, fun hp => ?_⟩
      obtain ⟨b', o', e, hb, hi⟩ := h4 h0
      refine ⟨b', o', e, hb, fun i hil => ?_⟩
      have := hi i (by omega)
      rw [List.getD_eq_getElem?_getD] at this
      rw [List.getD_eq_getElem?_getD, List.getElem?_take_of_lt (by omega)]
      exact this

set_option maxRecDepth 100000 in
/-- l[k:] -/
theorem acts_tail {B : Nat} {w : World} {A : Option Addr} {c : Nat} {l : List RAct} (h : ActsIn B w (.slice A l.length c) l) (k : Nat) (hk : k ≤ l.length) :
    ∃ A', (∀ W : World, (Instr.slice 22 (.slice A l.length c) (some (.int .i64 (k : Int))) none none).run Tryz.prog W = .ok (.slice A' (l.drop k).length (c - k)) W) ∧
      ∀ w' B', ActsIn B' w' (.slice A l.length c) l → ActsIn B' w' (.slice A' (l.drop k).length (c - k)) (l.drop k) := by
  obtain ⟨-, hlc, hf⟩ := acts_form h
  have hlen : (l.drop k).length = l.length - k := by simp
  obtain ⟨i0, hi0, hz0, hz1, hz2⟩ := info_parts infoAct
  have hsz : ∀ W : World, (sizeOf 41).run Tryz.prog W = .ok 4 W := fun W => by simp [sizeOf, typeInfo, hi0, hz1]
  have hj : (0 : Int) ≤ (k : Int) ∧ (k : Int) ≤ (l.length : Int) := ⟨by omega, by omega⟩
  by_cases hd : l.length = k
  · have hnil : l.drop k = [] := List.drop_of_length_le (by omega)
    refine ⟨if c = k then A else A.map (·.add (k * 4)), fun W => ?_, fun w' B' h' => ?_⟩
    · simp [Instr.slice, Instr.sliceBounds, Instr.sliceBound, asIntOf, run_underlying Tryz.underlying22, hsz, hj]
      try omega
    · rw [hnil]
      refine acts_empty _ _ _ _ (fun e => ?_)
      by_cases hc : c = k
      · omega
      · rw [if_neg hc] at e
        have hA : A = none := by cases A with
          | none => rfl
          | some a => cases e
        rcases hf with ⟨rfl, hA'⟩ | ⟨_, b, o, rfl⟩
        · have := hA' hA; omega
        · cases hA
  · rcases hf with ⟨rfl, _⟩ | ⟨h0, b, o, rfl⟩
    · simp at hk hd; omega
    · have hck : ¬ c = k := by omega
      refine ⟨some ⟨b, o + k * 4, none⟩, fun W => ?_, fun w' B' h' => ?_⟩
      · simp [Instr.slice, Instr.sliceBounds, Instr.sliceBound, asIntOf, run_underlying Tryz.underlying22, hsz, hj, hck, addr_add]
        try omega
      · obtain ⟨A', c', e, h2, h3, h4⟩ := h'
        injection e with e1 e2 e3
        subst e1; subst e3
        refine ⟨_, _, rfl, by omega, ⟨(fun e => by cases e), by omega⟩, fun hp => ?_⟩
        obtain ⟨b', o', e, hb, hi⟩ := h4 h0
        injection e with e
        injection e with e1 e2
        subst e1; subst e2
        refine ⟨_, _, rfl, hb, fun i hil => ?_⟩
        have := hi (k + i) (by omega)
        rw [List.getD_eq_getElem?_getD] at this
        rw [List.getD_eq_getElem?_getD, List.getElem?_drop, show o + k * 4 + i * 4 = o + (k + i) * 4 by omega]
        exact this
end Go.Proofs.YtinkdjeanjhkbaaGreatDoor
