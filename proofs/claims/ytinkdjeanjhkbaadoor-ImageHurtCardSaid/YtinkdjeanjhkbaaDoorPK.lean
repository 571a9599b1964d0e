/-
  The plain law of ImageHurt.
-/
import Derived.Test.YtinkdjeanjhkbaaDoorPJ
namespace Go.Proofs.YtinkdjeanjhkbaaDoor

theorem xor_ne {a b : UInt8} (h : b ≠ 0) : a ≠ a ^^^ b := by
  intro e
  apply h
  have h1 : a ^^^ a = a ^^^ (a ^^^ b) := congrArg (a ^^^ ·) e
  rw [← UInt8.xor_assoc, UInt8.xor_self, UInt8.zero_xor] at h1
  exact h1.symm
theorem hurtL_len {l : List UInt8} {k : Nat} (b : UInt8) (h : k < l.length) : (hurtL l k b).length = l.length := by
  simp only [hurtL, List.length_append, List.length_take, List.length_drop, List.length_singleton]; omega
theorem hurtL_parts {l : List UInt8} {k : Nat} (b : UInt8) (h : k < l.length) : l = l.take k ++ l.getD k 0 :: l.drop (k + 1) := by
  have e : l.getD k 0 :: l.drop (k + 1) = l.drop k := by
    rw [List.drop_eq_getElem_cons h]; simp [h]
  rw [e, List.take_append_drop]
theorem hurtL_diff {l : List UInt8} {k : Nat} {b : UInt8} (hb : b ≠ 0) (h : k < l.length) : Diff (hurtL l k b) l :=
  ⟨l.take k, l.getD k 0, l.getD k 0 ^^^ b, l.drop (k + 1), xor_ne hb, hurtL_parts b h, by simp [hurtL]⟩
theorem hurtL_back {l : List UInt8} {k : Nat} (b : UInt8) (h : k < l.length) : hurtL (hurtL l k b) k b = l := by
  have hk : (l.take k).length = k := by simp; omega
  have e : hurtL l k b = l.take k ++ ((l.getD k 0 ^^^ b) :: l.drop (k + 1)) := by simp [hurtL]
  have e1 : (hurtL l k b).take k = l.take k := by rw [e, List.take_left' hk]
  have e2 : (hurtL l k b).drop (k + 1) = l.drop (k + 1) := by
    rw [e, show k + 1 = (l.take k).length + 1 by rw [hk], List.drop_append]
    simp [hk]
  have e3 : (hurtL l k b).getD k 0 = l.getD k 0 ^^^ b := by
    rw [e, List.getD_eq_getElem?_getD, List.getElem?_append_right (by omega), hk]; simp
  show (hurtL l k b).take k ++ [(hurtL l k b).getD k 0 ^^^ b] ++ (hurtL l k b).drop (k + 1) = l
  rw [e1, e2, e3, UInt8.xor_assoc, UInt8.xor_self, UInt8.xor_zero]
  conv => rhs; rw [hurtL_parts b h]
  simp

theorem hurt_plain (u : ByteArray) (hu : u.size ≤ 2000000) (at_ : Int) (b : UInt8) (hb : b ≠ 0) (h0 : 0 ≤ at_) (h1 : at_ < (bytesL 2 (bl u)).length) :
    hurtR (rib 6000000 (bytesL 2 (bl u)) []) at_ b = some (rib 6000000 (hurtL (bytesL 2 (bl u)) at_.toNat b) []) ∧
    getR (rib 6000000 (hurtL (bytesL 2 (bl u)) at_.toNat b) []) = .inl 262 ∧
    hurtR (rib 6000000 (hurtL (bytesL 2 (bl u)) at_.toNat b) []) at_ b = some (rib 6000000 (bytesL 2 (bl u)) []) ∧
    getR (rib 6000000 (bytesL 2 (bl u)) []) = .inr (u, 2) := by
  have hsz : (bl u).length ≤ 2000000 := by rw [← size_bl]; exact hu
  have hl := bytesL_len 2 (bl u) (by decide) (by decide) (by omega)
  generalize hF : bytesL 2 (bl u) = F at *
  have hk : at_.toNat < F.length := by omega
  have hlen := hurtL_len b hk
  have hr : (1000 : Int) ≤ 6000000 ∧ (6000000 : Int) ≤ 6000000 := by decide
  have hv := rib_valid0 (f := F) hr (by omega)
  have hv' := rib_valid0 (f := hurtL F at_.toNat b) hr (by omega)
  have hn : readL (hurtL F at_.toNat b) = none := readL_hurt 2 (bl u) _ (by decide) (by decide) (by omega) (by rw [hF]; exact hurtL_diff hb hk)
  refine ⟨?_, ?_, ?_, ?_⟩
  · unfold hurtR
    rw [if_pos ⟨hv, h0, by simp only [rib, size_mkB]; exact h1⟩]
    simp only [rib, bl_mk]
  · unfold getR
    rw [if_pos hv']
    simp only [rib, bl_mk]
    rw [if_neg (by omega)]
    unfold heldR
    rw [hn]
  · unfold hurtR
    rw [if_pos ⟨hv', h0, by simp only [rib, size_mkB]; omega⟩]
    simp only [rib, bl_mk]
    rw [hurtL_back b hk]
  · subst hF
    have h := getR_ok (room := 6000000) hr (F := bytesL 2 (bl u)) (by omega) (holds_one (n := 2) ⟨by decide, by decide⟩ (by omega))
    rw [mk_bl] at h
    exact h

theorem hurt_puts (a b : ByteArray) (ha : a.size ≤ 2000000) (hb : b.size ≤ 2000000) :
    putBR (rib 6000000 (bytesL 0 []) []) a = (rib 6000000 (bytesL 1 (bl a)) [], true) ∧ putBR (rib 6000000 (bytesL 1 (bl a)) []) b = (rib 6000000 (bytesL 2 (bl b)) [], true) := by
  have hsa : (bl a).length ≤ 2000000 := by rw [← size_bl]; exact ha
  have hsb : (bl b).length ≤ 2000000 := by rw [← size_bl]; exact hb
  refine ⟨?_, ?_⟩
  · have h := (any_put a 6000000 ha (by omega) (by omega)).1
    rw [formattedR_ok (by decide)] at h
    exact h
  have l1 := bytesL_len 1 (bl a) (by decide) (by decide) (by omega)
  have l2 := bytesL_len 2 (bl b) (by decide) (by decide) (by omega)
  exact putBR_ok (n := 1) (F := bytesL 1 (bl a)) (t := bl a) (k := 0) (room := 6000000) b ⟨by decide, by decide⟩ (by omega) (holds_one (n := 1) ⟨by decide, by decide⟩ (by omega)) ⟨by decide, by decide⟩ hb (by show ((bytesL 1 (bl a)).length : Int) + (bytesL 2 (bl b)).length ≤ _; omega)

theorem byte_of (y : Int) (h : 0 ≤ y) : ∃ u : UInt8, (u.toNat : Int) = 1 + y % 255 ∧ u ≠ 0 := by
  refine ⟨UInt8.ofNat (1 + y % 255).toNat, ?_, ?_⟩
  · rw [UInt8.toNat_ofNat']; omega
  · intro e
    have := congrArg UInt8.toNat e
    rw [UInt8.toNat_ofNat'] at this
    have h0 : (0 : UInt8).toNat = 0 := rfl
    omega
theorem put_a (a : ByteArray) (ha : a.size ≤ 2000000) : putBR (rib 6000000 (bytesL 0 []) []) a = (rib 6000000 (bytesL 1 (bl a)) [], true) := by
  have h := (any_put a 6000000 ha (by omega) (by omega)).1
  rw [formattedR_ok (by decide)] at h
  exact h
theorem len1_le (a : ByteArray) (ha : a.size ≤ 2000000) : ((bytesL 1 (bl a)).length : Int) ≤ 6000000 := by
  have h : (bl a).length ≤ 2000000 := by rw [← size_bl]; exact ha
  have := bytesL_len 1 (bl a) (by decide) (by decide) (by omega)
  omega

theorem put_large (room : Int) (hr : 1000 ≤ room ∧ room ≤ 6000000) (F : List UInt8) (hF : (F.length : Int) ≤ room) (a : ByteArray) (ha : 2000000 < a.size) : putBR (rib room F []) a = (rib room F [], false) := by
  unfold putBR PutR
  rw [if_pos (rib_valid0 hr hF), if_pos ha]
  rfl
end Go.Proofs.YtinkdjeanjhkbaaDoor
