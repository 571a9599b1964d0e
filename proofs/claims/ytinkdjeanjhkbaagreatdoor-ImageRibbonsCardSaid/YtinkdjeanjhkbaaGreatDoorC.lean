/-
  The walks of image's functions that write records: sum, digits, sealed, bytes; kept, added, keep, add.
-/
import Derived.Test.YtinkdjeanjhkbaaGreatDoorB
namespace Go.Proofs.YtinkdjeanjhkbaaGreatDoor
open Go.RowKit
attribute [local go_sem] size_mkB

theorem take_snoc (s : ByteArray) (k : Nat) (h : k < s.size) : s.data.toList.take (k + 1) = s.data.toList.take k ++ [s[k]] := by
  rw [List.take_succ_eq_append_getElem (by simpa using h)]; rfl

theorem sum_step (q : Int) (c : UInt8) (h0 : 0 ≤ q) (h1 : q < 2147483647) : (wrap64 (wrap64 (q * 31 + wrap64 ↑c.toNat) + 1)).tmod 2147483647 = sumStep q c := by
  have hc : c.toNat < 256 := c.toNat_lt
  have e1 : wrap64 (c.toNat : Int) = c.toNat := by unfold wrap64; omega
  have e2 : wrap64 (q * 31 + c.toNat) = q * 31 + c.toNat := by unfold wrap64; omega
  have e3 : wrap64 (q * 31 + c.toNat + 1) = q * 31 + c.toNat + 1 := by unfold wrap64; omega
  rw [e1, e2, e3, Int.tmod_eq_emod_of_nonneg (by omega)]; rfl
theorem sumStep_bound (q : Int) (c : UInt8) : 0 ≤ sumStep q c ∧ sumStep q c < 2147483647 := by unfold sumStep; omega

set_option maxHeartbeats 400000 in
theorem sum_any (s : ByteArray) (w : World) (hs : s.size ≤ 4611686018427387904) :
    Calls Tryz.prog 83 #[.string s] w fun e w' => e = .returned (.int .i64 (sumL (bl s))) ∧ w' = w := by
  go_enter Tryz.func83, Tryz.ntmps83
  go_wp2
  go_loop [3, 7] (fun n i => ∃ (k : Nat) (q : Int), k ≤ s.size ∧ i = .int .i64 k ∧ n = .int .i64 q ∧ 0 ≤ q ∧ q < 2147483647 ∧ Hid (q = sumL (s.data.toList.take k))) (fun _ i => s.size - (intOf i).toNat)
  case atStart => exact ⟨0, 1, Nat.zero_le _, rfl, rfl, by omega, by omega, rfl⟩
  case round =>
    obtain ⟨k, q, hk, rfl, rfl, hq0, hq1, HQ⟩ := hrel
    by_cases hlt : k < s.size
    · have HS : Hid (sumL (s.data.toList.take (k + 1)) = sumStep (sumL (s.data.toList.take k)) s[k]) := by
        rw [take_snoc s k hlt]; simp only [Hid, sumL, List.foldl_append, List.foldl_cons, List.foldl_nil]
      go_wp2
      all_goals
        go_round
        case rel => exact ⟨k + 1, sumStep q s[k], by omega, by go_num, congrArg (Value.int .i64) (sum_step q _ hq0 hq1), (sumStep_bound _ _).1, (sumStep_bound _ _).2, by simp only [Hid]; rw [HS.out, ← HQ.out]⟩
        case measure => simp [intOf]; omega
    · go_wp2
      go_ret
      exact ⟨ret_int (by rw [HQ.out, List.take_of_length_le (by rw [← Lib.size_eq]; omega)]; rfl), rfl⟩

theorem repeat_any (s : ByteArray) (c : Int) (h0 : 0 ≤ c) (h1 : c ≤ 9223372036854775807) (hlen : s.size * c.toNat ≤ 140737488355328) (w : World) :
    Calls Tryz.prog 29 #[.string s, .int .i64 c] w fun e w' => ∃ z : ByteArray, e = .returned (.string z) ∧ z.size ≤ 140737488355328 ∧ Hid (bl z = Lib.repeatL (bl s) c.toNat) ∧ Below w.heap.size w w' := by
  obtain ⟨n, rfl⟩ := Int.eq_ofNat_of_zero_le h0
  refine (Tryz.strings_Repeat s n w (by omega) hlen).mono ?_
  rintro e w' ⟨rfl, hb⟩
  refine ⟨_, rfl, ?_, bl_mk _, hb⟩
  show (mkB (Lib.repeatL s.data.toList n)).size ≤ _
  rw [size_mkB, Lib.repeatL_length, ← Lib.size_eq, Nat.mul_comm]; exact hlen

theorem itoa_any (n : Int) (h0 : -9223372036854775808 ≤ n) (h1 : n ≤ 9223372036854775807) (w : World) (hG : G w) :
    Calls Tryz.prog 38 #[.int .i64 n] w fun e w' => e = .returned (.string (mkB (Lib.itoa n))) ∧ Below w.heap.size w w' := by
  refine (Tryz.strconv_Itoa n h0 h1 w hG.pow).mono ?_
  rintro e w' ⟨rfl, k, os, rfl⟩
  exact ⟨rfl, below_grow (Below.refl _ _) (Nat.le_refl _) k os⟩

theorem repeatL_one (b : UInt8) (n : Nat) : Lib.repeatL [b] n = List.replicate n b := by
  induction n with
  | zero => rfl
  | succ n ih => simp [Lib.repeatL, ih, List.replicate_succ]

theorem nDigits_le (k u : Nat) (h : u < 10 ^ (k + 1)) : Lib.nDigits u ≤ k + 1 := by
  induction k generalizing u with
  | zero => rw [Lib.nDigits_small (by simpa using h)]; omega
  | succ k ih =>
    by_cases h10 : u < 10
    · rw [Lib.nDigits_small h10]; omega
    · rw [Lib.nDigits_big h10]
      have := ih (u / 10) (by rw [Nat.pow_succ] at h; omega)
      omega

theorem itoa_len (n : Int) (h0 : -9223372036854775808 ≤ n) (h1 : n ≤ 9223372036854775807) : 1 ≤ (Lib.itoa n).length ∧ (Lib.itoa n).length ≤ 20 := by
  unfold Lib.itoa
  split
  · have := nDigits_le 18 n.natAbs (by omega)
    simp only [List.length_cons, Lib.decDigits_length]; omega
  · have := nDigits_le 18 n.toNat (by omega)
    have := Lib.nDigits_pos n.toNat
    simp only [Lib.decDigits_length]; omega

set_option maxHeartbeats 400000 in
set_option maxRecDepth 100000 in
theorem digits_any (n many : Int) (w : World) (h0 : -9223372036854775808 ≤ n) (h1 : n ≤ 9223372036854775807) (hm0 : 0 ≤ many) (hm : many ≤ 100) (hG : G w) :
    Calls Tryz.prog 82 #[.int .i64 n, .int .i64 many] w fun e w' => ∃ z : ByteArray, e = .returned (.string z) ∧ z.size ≤ 120 ∧ Hid (bl z = digitsL n many) ∧ Below w.heap.size w w' := by
  have hl := itoa_len n (by omega) h1
  have hd : digitsL n many = List.replicate (many - (Lib.itoa n).length).toNat 48 ++ Lib.itoa n := rfl
  have HD := Lib.hid hd
  clear hd
  generalize hit : Lib.itoa n = d at hl HD
  have HI := Lib.hid hit
  clear hit
  have hit2 : ∀ w : World, G w → Calls Tryz.prog 38 #[.int .i64 n] w fun e w' => e = .returned (.string (mkB d)) ∧ Below w.heap.size w w' := by
    intro w hG; rw [← HI.out]; exact itoa_any n (by omega) h1 w hG
  have HT := Lib.hid hit2
  clear hit2
  go_enter Tryz.func82, Tryz.ntmps82
  go_wp2_with (first | (go_at_call 38; refine (HT.out _ hG).mono ?_; rintro e w1 ⟨rfl, hb1⟩) | (go_at_call 29; refine (repeat_any _ _ ?c1 ?c2 ?c3 _).mono ?_; (case c1 => omega); (case c2 => omega); (case c3 => (rw [show (⟨#[48]⟩ : ByteArray).size = 1 from rfl]; omega)); rintro e w2 ⟨z, rfl, hz, HZ, hb2⟩))
  go_ret
  have hz2 : bl (z ++ mkB d) = digitsL n many := by
    rw [bl_append, bl_mk, HD.out, HZ.out, show bl (⟨#[48]⟩ : ByteArray) = [48] from rfl, repeatL_one]
    congr 2
    omega
  refine ⟨_, rfl, ?_, hz2, hb1.trans (hb2.mono hb1.size)⟩
  rw [size_bl, hz2, HD.out]
  simp; omega

theorem digits_in {B : Nat} {W w : World} (h : Hid (Below B W w)) (hG : G W) (h5 : 5 < B) (hB : B ≤ W.heap.size) (n many : Int) (h0 : -9223372036854775808 ≤ n) (h1 : n ≤ 9223372036854775807) (hm0 : 0 ≤ many) (hm : many ≤ 100) :
    Calls Tryz.prog 82 #[.int .i64 n, .int .i64 many] w fun e w' => ∃ z : ByteArray, e = .returned (.string z) ∧ z.size ≤ 120 ∧ Hid (bl z = digitsL n many) ∧ Hid (Below B W w') ∧ ∀ b o, b < B → w'.cell? ⟨b, o, none⟩ = w.cell? ⟨b, o, none⟩ := by
  have hs := h.out.size
  refine (digits_any n many w h0 h1 hm0 hm (hG.below h.out h5)).mono ?_
  rintro e w' ⟨z, rfl, hz, HZ, hb⟩
  exact ⟨z, rfl, hz, HZ, h.out.trans (hb.mono (by omega)), (bcell (hb.mono (by omega))).1⟩

theorem sealed_any (s : ByteArray) (w : World) (hs : s.size ≤ 140737488355328) (hG : G w) :
    Calls Tryz.prog 81 #[.string s] w fun e w' => ∃ z : ByteArray, e = .returned (.string z) ∧ z.size ≤ s.size + 120 ∧ Hid (bl z = sealedL (bl s)) ∧ Below w.heap.size w w' := by
  have hb := sumL_bound (bl s)
  have hsl : sealedL (bl s) = bl s ++ digitsL (sumL (bl s)) 10 := rfl
  have HS := Lib.hid hsl
  clear hsl
  have hsum := fun w => sum_any s w (by omega)
  generalize sumL (bl s) = q at hb HS hsum
  have HSM := Lib.hid hsum
  clear hsum
  go_enter Tryz.func81, Tryz.ntmps81
  go_wp2_with (first | (go_at_call 83; refine (HSM.out _).mono ?_; rintro e w1 ⟨rfl, rfl⟩) | (go_at_call 82; refine (digits_any _ _ _ ?c1 ?c2 (by decide) (by decide) hG).mono ?_; (case c1 => omega); (case c2 => omega); rintro e w2 ⟨z, rfl, hz, HZ, hb2⟩))
  go_ret
  refine ⟨_, rfl, ?_, by simp only [Hid]; rw [bl_append, HS.out, HZ.out], hb2⟩
  rw [ByteArray.size_append]; omega

theorem sealed_in {B : Nat} {W w : World} (h : Hid (Below B W w)) (hG : G W) (h5 : 5 < B) (hB : B ≤ W.heap.size) (s : ByteArray) (hs : s.size ≤ 140737488355328) :
    Calls Tryz.prog 81 #[.string s] w fun e w' => ∃ z : ByteArray, e = .returned (.string z) ∧ z.size ≤ s.size + 120 ∧ Hid (bl z = sealedL (bl s)) ∧ Hid (Below B W w') ∧ ∀ b o, b < B → w'.cell? ⟨b, o, none⟩ = w.cell? ⟨b, o, none⟩ := by
  have hsz := h.out.size
  refine (sealed_any s w hs (hG.below h.out h5)).mono ?_
  rintro e w' ⟨z, rfl, hz, HZ, hb⟩
  exact ⟨z, rfl, hz, HZ, h.out.trans (hb.mono (by omega)), (bcell (hb.mono (by omega))).1⟩

theorem cat_run {P : Program} {a b : ByteArray} (w : World) (h : a.size + b.size ≤ 9223372036854775807) : (Op.stringOp .add a b).run P w = .ok (.string (a ++ b)) w := run_string_add_sum w a b h
theorem cat_magic : (⟨#[115, 107, 114, 32]⟩ : ByteArray).size = 4 := rfl
theorem cat_full : (⟨#[46]⟩ : ByteArray).size = 1 := rfl

theorem bytes_close {n q : Int} {s z1 z2 z3 z4 : ByteArray} (h1 : Hid (bl z1 = digitsL n 12)) (h2 : Hid (bl z2 = digitsL s.size 8))
    (h3 : Hid (bl z3 = sealedL (bl (⟨#[115, 107, 114, 32]⟩ ++ z1 ++ z2)))) (h4 : Hid (bl z4 = digitsL q 10)) (hq : Hid (sumL (bl s) = q)) :
    Hid (bl (z3 ++ s ++ z4 ++ ⟨#[46]⟩) = bytesL n (bl s)) := by
  simp only [Hid] at *
  rw [bl_append, bl_append, bl_append, h3, h4, bl_append, bl_append, h1, h2, ← hq, size_bl]
  rfl

set_option maxHeartbeats 1000000 in
set_option maxRecDepth 100000 in
theorem bytes_any (n k : Int) (s : ByteArray) (w : World) (h0 : -9223372036854775808 ≤ n) (h1 : n ≤ 9223372036854775807) (hs : s.size ≤ 100000000000) (hG : G w) :
    Calls Tryz.prog 60 #[.agg #[.int .i64 n, .string s, .int .i64 k]] w fun e w' => ∃ z : ByteArray, e = .returned (.string z) ∧ z.size ≤ s.size + 1000 ∧ Hid (bl z = bytesL n (bl s)) ∧ Below w.heap.size w w' := by
  have hbd := sumL_bound (bl s)
  have hsum := fun w => sum_any s w (by omega)
  generalize hq : sumL (bl s) = q at hbd hsum
  have HSM := Lib.hid hsum
  have HQ := Lib.hid hq
  clear hsum hq
  have h5 := hG.low
  have hB0 : Hid (Below (w.heap.size + 1) (w.alloc (.cells #[.int .i64 n, .string s, .int .i64 k] 69)) (w.alloc (.cells #[.int .i64 n, .string s, .int .i64 k] 69)).drew) := (Below.refl _ _).drew
  go_enter Tryz.func60, Tryz.ntmps60
  go_wp2_with fail
  go_region_held3 (fun w' => w'.cell? ⟨w.heap.size, 0, none⟩ = some (.int .i64 n) ∧ w'.cell? ⟨w.heap.size, 1, none⟩ = some (.string s) ∧ Hid (Below (w.heap.size + 1) (w.alloc (.cells #[.int .i64 n, .string s, .int .i64 k] 69)) w'))
    (first | go_keep | (refine ⟨by simp, by simp, hB0⟩) | (go_split_ands; refine ⟨?_, ?_, ‹_›⟩ <;> (rw [‹∀ b o, b < w.heap.size + 1 → _› _ _ (by omega)]; assumption)))
    (first
      | (go_at_call 83; refine (HSM.out _).mono ?_; rintro e w1 ⟨rfl, rfl⟩)
      | (go_at_call 82
         refine (digits_in ‹_› (hG.alloc _) (by omega) (by simp) _ _ (by omega) (by omega) (by decide) (by decide)).mono ?_
         rintro e w1 ⟨z, rfl, hz, HZ, hB1, hc1⟩
         have k1 := fun W : World => cat_run (P := Tryz.prog) (a := ⟨#[115, 107, 114, 32]⟩) (b := z) W (by rw [cat_magic]; omega)
         have k2 := fun (y : ByteArray) (W : World) (h : y.size ≤ 120) => cat_run (P := Tryz.prog) (a := ⟨#[115, 107, 114, 32]⟩ ++ y) (b := z) W (by rw [ByteArray.size_append, cat_magic]; omega)
         have k3 := fun (y : ByteArray) (W : World) (h : y.size ≤ 500) => cat_run (P := Tryz.prog) (a := y ++ s) (b := z) W (by rw [ByteArray.size_append]; omega)
         have k5 := fun (y : ByteArray) (W : World) (h : y.size ≤ 500) => cat_run (P := Tryz.prog) (a := y ++ s ++ z) (b := ⟨#[46]⟩) W (by rw [ByteArray.size_append, ByteArray.size_append, cat_full]; omega))
      | (go_at_call 81
         refine (sealed_in ‹_› (hG.alloc _) (by omega) (by simp) _ (by rw [ByteArray.size_append, ByteArray.size_append, cat_magic]; omega)).mono ?_
         rintro e w1 ⟨z, rfl, hz, HZ, hB1, hc1⟩
         rw [ByteArray.size_append, ByteArray.size_append, cat_magic] at hz
         replace hz : z.size ≤ 500 := by omega
         have k4 := fun W : World => cat_run (P := Tryz.prog) (a := z) (b := s) W (by omega)))
  go_wp2
  go_ret
  refine ⟨_, rfl, ?_, bytes_close ‹_› ‹_› ‹_› ‹_› HQ, below_alloc_old (n := 1) (Hid.out ‹_›)⟩
  simp only [ByteArray.size_append, cat_full]; omega
end Go.Proofs.YtinkdjeanjhkbaaGreatDoor
