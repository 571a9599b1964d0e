/-
  The plain law: a torn record is none; one changed byte is seen.
-/
import Derived.Test.YtinkdjeanjhkbaaGreatDoorPB
namespace Go.Proofs.YtinkdjeanjhkbaaGreatDoor

theorem digits_inj {a b : Nat} {k : Int} (h : digitsL a k = digitsL b k) : a = b := by
  have h1 := digitsL_dec a k
  rw [h, digitsL_dec b k] at h1
  exact (Option.some.inj h1).symm
theorem digits_sum_inj {a b : List UInt8} (h : digitsL (sumL a) 10 = digitsL (sumL b) 10) : sumL a = sumL b := by
  have ha := sumL_bound a
  have hb := sumL_bound b
  obtain ⟨m, hm⟩ := Int.eq_ofNat_of_zero_le ha.1
  obtain ⟨k, hk⟩ := Int.eq_ofNat_of_zero_le hb.1
  rw [hm, hk] at h ⊢
  rw [digits_inj h]

theorem readL_torn (n : Int) (t : List UInt8) (h0 : 0 ≤ n) (h : n < 1000000000000) (ht : t.length < 100000000) (j m : Nat) (hj : j < (bytesL n t).length) :
    readL ((bytesL n t).take j ++ List.replicate m 126) = none := by
  cases hr : readL ((bytesL n t).take j ++ List.replicate m 126) with
  | none => rfl
  | some p =>
    exfalso
    obtain ⟨n', t'⟩ := p
    obtain ⟨g0, g1, g2, rest, hs⟩ := readL_inv hr
    have hl' := bytesL_len n' t' g0 g1 g2
    have hlen := congrArg List.length hs
    simp only [List.length_append, List.length_take, List.length_replicate] at hlen
    have hlast : ((bytesL n t).take j ++ List.replicate m 126)[(bytesL n' t').length - 1]? = some 46 := by
      obtain ⟨F, hF⟩ : ∃ F, bytesL n' t' = F ++ [46] := ⟨_, rfl⟩
      have hFl : (bytesL n' t').length - 1 = F.length := by rw [hF]; simp
      rw [hs, hFl, hF, List.append_assoc, List.getElem?_append_right (Nat.le_refl _), Nat.sub_self]
      rfl
    by_cases hle : (bytesL n' t').length ≤ j
    · have hp : bytesL n t = bytesL n' t' ++ (bytesL n t).drop (bytesL n' t').length := by
        have h2 := congrArg (List.take (bytesL n' t').length) hs
        rw [List.take_append_of_le_length (by simp; omega), List.take_take, Nat.min_eq_left hle, List.take_left' rfl] at h2
        conv => lhs; rw [← List.take_append_drop (bytesL n' t').length (bytesL n t), h2]
      have h1 := readL_bytes n' t' ((bytesL n t).drop (bytesL n' t').length) g0 g1 g2
      rw [← hp] at h1
      have h3 := readL_bytes n t [] h0 h ht
      rw [List.append_nil, h1] at h3
      injection h3 with h3
      injection h3 with h3 h4
      subst h3; subst h4
      omega
    · rw [List.getElem?_append_right (by simp; omega)] at hlast
      rw [List.getElem?_replicate] at hlast
      split at hlast
      · cases hlast
      · cases hlast

/-- exactly one byte differs -/
def Diff (s b : List UInt8) : Prop := ∃ x c c' y, c ≠ c' ∧ b = x ++ c :: y ∧ s = x ++ c' :: y

theorem Diff.irrefl {s b : List UInt8} (h : Diff s b) : s ≠ b := by
  obtain ⟨x, c, c', y, hc, rfl, rfl⟩ := h
  intro e
  have := List.append_cancel_left e
  injection this with h1 _
  exact hc h1.symm
theorem Diff.length {s b : List UInt8} (h : Diff s b) : s.length = b.length := by
  obtain ⟨x, c, c', y, hc, rfl, rfl⟩ := h
  simp
theorem Diff.append {s1 s2 b1 b2 : List UInt8} (h : Diff (s1 ++ s2) (b1 ++ b2)) (hl : s1.length = b1.length) : (Diff s1 b1 ∧ s2 = b2) ∨ (s1 = b1 ∧ Diff s2 b2) := by
  obtain ⟨x, c, c', y, hc, h1, h2⟩ := h
  induction x generalizing s1 b1 with
  | nil =>
    cases b1 with
    | nil =>
      cases s1 with
      | nil => exact Or.inr ⟨rfl, [], c, c', y, hc, by simpa using h1, by simpa using h2⟩
      | cons _ _ => simp at hl
    | cons b b1 =>
      cases s1 with
      | nil => simp at hl
      | cons a s1 =>
        simp at h1 h2 hl
        obtain ⟨rfl, h1⟩ := h1
        obtain ⟨rfl, h2⟩ := h2
        have := List.append_inj (h2.trans h1.symm) hl
        obtain ⟨rfl, rfl⟩ := this
        exact Or.inl ⟨⟨[], b, a, s1, hc, rfl, rfl⟩, rfl⟩
  | cons d x ih =>
    cases b1 with
    | nil =>
      cases s1 with
      | nil => exact Or.inr ⟨rfl, d :: x, c, c', y, hc, by simpa using h1, by simpa using h2⟩
      | cons _ _ => simp at hl
    | cons b b1 =>
      cases s1 with
      | nil => simp at hl
      | cons a s1 =>
        simp at h1 h2 hl
        obtain ⟨rfl, h1⟩ := h1
        obtain ⟨rfl, h2⟩ := h2
        rcases ih hl h1 h2 with ⟨⟨x', e, e', y', he, k1, k2⟩, k3⟩ | ⟨k1, k2⟩
        · exact Or.inl ⟨⟨_ :: x', e, e', y', he, by rw [k1]; rfl, by rw [k2]; rfl⟩, k3⟩
        · exact Or.inr ⟨by rw [k1], k2⟩

theorem sumStep_inj {a b : Int} {d : UInt8} (ha : 0 ≤ a ∧ a < 2147483647) (hb : 0 ≤ b ∧ b < 2147483647) (h : sumStep a d = sumStep b d) : a = b := by
  unfold sumStep at h
  omega
theorem sumStep_byte {a : Int} {c d : UInt8} (h : sumStep a c = sumStep a d) : c = d := by
  unfold sumStep at h
  have := c.toNat_lt
  have := d.toNat_lt
  exact UInt8.toNat_inj.1 (by omega)
theorem sum_fold_inj : ∀ (y : List UInt8) (a b : Int), (0 ≤ a ∧ a < 2147483647) → (0 ≤ b ∧ b < 2147483647) → y.foldl sumStep a = y.foldl sumStep b → a = b := by
  intro y
  induction y with
  | nil => intro a b _ _ h; exact h
  | cons d y ih =>
    intro a b ha hb h
    have hs : ∀ n, 0 ≤ sumStep n d ∧ sumStep n d < 2147483647 := fun n => by unfold sumStep; omega
    exact sumStep_inj ha hb (ih _ _ (hs a) (hs b) h)
theorem sum_diff {s b : List UInt8} (h : Diff s b) : sumL s ≠ sumL b := by
  obtain ⟨x, c, c', y, hc, rfl, rfl⟩ := h
  intro e
  unfold sumL at e
  rw [List.foldl_append, List.foldl_append, List.foldl_cons, List.foldl_cons] at e
  have hs : ∀ n d, 0 ≤ sumStep n d ∧ sumStep n d < 2147483647 := fun n d => by unfold sumStep; omega
  exact hc (sumStep_byte (sum_fold_inj y _ _ (hs _ _) (hs _ _) e)).symm

theorem readL_hurt (n : Int) (t s : List UInt8) (h0 : 0 ≤ n) (h : n < 1000000000000) (ht : t.length < 100000000) (hd : Diff s (bytesL n t)) : readL s = none := by
  cases hr : readL s with
  | none => rfl
  | some p =>
    exfalso
    obtain ⟨n', t'⟩ := p
    obtain ⟨g0, g1, g2, rest, rfl⟩ := readL_inv hr
    have e : bytesL n' t' ++ rest = headL n' t'.length ++ (digitsL (sumL (headL n' t'.length)) 10 ++ (t' ++ (digitsL (sumL t') 10 ++ ([46] ++ rest)))) := by
      rw [bytesL_eq]; simp
    rw [e, bytesL_eq] at hd
    rcases hd.append (by rw [headL_len n' t' g0 g1 g2, headL_len n t h0 h ht]) with ⟨d1, d2⟩ | ⟨d1, d2⟩
    · have := (List.append_inj d2 (by rw [len10, len10])).1
      exact sum_diff d1 (digits_sum_inj this)
    · rw [d1] at d2
      rcases d2.append rfl with ⟨k1, _⟩ | ⟨_, k2⟩
      · exact k1.irrefl rfl
      · have hh : magicL ++ digitsL n' 12 ++ digitsL t'.length 8 = magicL ++ digitsL n 12 ++ digitsL t.length 8 := d1
        have hh1 := List.append_inj hh (by simp only [List.length_append]; rw [len12 n' g0 g1, len12 n h0 h])
        have hlen : t'.length = t.length := digits_inj hh1.2
        rcases k2.append hlen with ⟨m1, m2⟩ | ⟨m1, m2⟩
        · have := (List.append_inj m2 (by rw [len10, len10])).1
          exact sum_diff m1 (digits_sum_inj this)
        · rw [m1] at m2
          rcases m2.append rfl with ⟨q1, _⟩ | ⟨_, q2⟩
          · exact q1.irrefl rfl
          · have hl := q2.length
            simp at hl
            subst hl
            exact q2.irrefl rfl
end Go.Proofs.YtinkdjeanjhkbaaGreatDoor
