/-
  The walk of the reference's Right and Check.
-/
import Derived.Test.YtinkdjeanjhkbaaGreatDoorYA
namespace Go.Proofs.YtinkdjeanjhkbaaGreatDoor
open Go.RowKit
attribute [local go_sem] size_mkB

theorem right_bad {room : Int} {fast : ByteArray} {l : List RAct} {k : Nat} (hk : k < l.length) (h : good fast.size k (l.getD k zAct) = false) : decide (checkR room fast l = 0) = false := by
  rw [decide_eq_false_iff_not, right_iff]
  rintro ⟨_, _, _, h4, _⟩
  rw [h4 k hk] at h; cases h
theorem right_more {room : Int} {fast : ByteArray} {l : List RAct} {k : Nat} (h : room < ((addedL (l.take k)).length : Int)) : decide (checkR room fast l = 0) = false := by
  rw [decide_eq_false_iff_not, right_iff]
  rintro ⟨_, _, _, _, h5⟩
  have := addedL_le l k
  omega
theorem right_end {room : Int} {fast : ByteArray} {l : List RAct} (h1 : ¬ (room < 1000 ∨ 6000000 < room ∨ room < fast.size)) (h : ∀ i, i < l.length → good fast.size i (l.getD i zAct) = true) :
    decide (checkR room fast l = 0) = decide (((keptL (bl fast) l).length : Int) + (addedL l).length ≤ room) := by
  rw [decide_eq_decide, right_iff]
  constructor
  · rintro ⟨_, _, _, _, h5⟩; exact h5
  · intro h5; exact ⟨by omega, by omega, by omega, h, h5⟩

theorem good_next {size k : Nat} {l : List RAct} {a : RAct} (h : ∀ j, j < k → good size j (l.getD j zAct) = true) (ha : l.getD k zAct = a) (hg : good size k a = true) : ∀ j, j < k + 1 → good size j (l.getD j zAct) = true := by
  intro j hj
  by_cases e : j = k
  · subst e; rw [ha]; exact hg
  · exact h j (by omega)
theorem added_next {k q : Nat} {l : List RAct} {tx : ByteArray} (hq : q = (addedL (l.take k)).length) (ht : addedL (l.take (k + 1)) = addedL (l.take k) ++ bl tx) : q + tx.size = (addedL (l.take (k + 1))).length := by
  rw [ht, List.length_append, ← hq, ← size_bl]

set_option maxHeartbeats 1600000 in
set_option maxRecDepth 100000 in
theorem right_any (room : Int) (fast : ByteArray) (v : Value) (l : List RAct) (w : World) (hl : ActsIn w.heap.size w v l) :
    Calls Tryz.prog 25 #[.agg #[.int .i64 room, .string fast, v]] w fun e w' => e = .returned (.bool (decide (checkR room fast l = 0))) ∧ Below w.heap.size w w' := by
  have HL := Lib.hid hl
  obtain ⟨A, cap, rfl, hc, ⟨hcm, hcl⟩, hcells⟩ := hl
  obtain ⟨D, hD⟩ : ∃ D, decide (checkR room fast l = 0) = D := ⟨_, rfl⟩
  have HD := Lib.hid hD
  by_cases h1 : room < 1000 ∨ 6000000 < room ∨ room < fast.size
  · have hck : checkR room fast l = 260 := by unfold checkR; rw [if_pos h1]
    have hf : D = false := by rw [← hD, decide_eq_false_iff_not]; omega
    clear hck
    have HF := Lib.hid hf
    rw [hD]
    clear hD hf
    go_enter Tryz.func25, Tryz.ntmps25
    go_wp2_with fail
    all_goals
      go_ret
      exact ⟨ret_bool (by rw [HF.out]), (Below.refl _ _).alloc (Nat.le_refl _) _⟩
  · rw [hD]
    clear hD
    have H1 := Lib.hid h1
    have b1 : 1000 ≤ room := by omega
    have b2 : room ≤ 6000000 := by omega
    have b3 : (fast.size : Int) ≤ room := by omega
    clear h1
    go_enter Tryz.func25, Tryz.ntmps25
    go_wp2_with fail
    go_loopw [3, 4] (fun n i wr => ∃ (k q : Nat), k ≤ l.length ∧ i = .int .i64 k ∧ n = .int .i64 q ∧ (q : Int) ≤ 12000000 ∧ Hid (q = (addedL (l.take k)).length) ∧ Hid (∀ j, j < k → good fast.size j (l.getD j zAct) = true) ∧
        Hid (Below (w.heap.size + 1) (w.alloc (Obj.cells #[Value.int IntKind.i64 room, Value.string fast, Value.slice A l.length cap] 24)) wr))
      (fun _ i _ => l.length - (intOf i).toNat)
    case atStart => exact ⟨0, 0, Nat.zero_le _, rfl, rfl, by decide, by simp [Hid, addedL], (fun j h => by cases h), Below.refl _ _⟩
    case round =>
      obtain ⟨k, q, hk, rfl, rfl, hq, HQ, HGD, HB⟩ := hrel
      obtain ⟨hcr, hfr⟩ := bcell HB.out
      have hzr : w.heap.size < wr.heap.size := by have := HB.out.size; simp at this; omega
      by_cases hlt : k < l.length
      · by_cases hqr : (q : Int) ≤ room
        · obtain ⟨b, o, rfl, hb, hall⟩ := hcells (by omega)
          obtain ⟨c0, c1, c2, c3⟩ := hall k hlt
          have htk := addedL_take l k hlt
          have HBAD := fun h => right_bad (room := room) (fast := fast) hlt h
          clear hall hcells
          generalize ha : l.getD k zAct = a at c0 c1 c2 c3 htk HBAD
          have HA := Lib.hid ha
          have HTK := Lib.hid htk
          have HBD := Lib.hid HBAD
          clear ha htk HBAD
          cases hA : goodA a with
          | true =>
            have hgd : good fast.size k a = true := by unfold good; rw [hA]; rfl
            unfold goodA at hA
            simp at hA
            obtain ⟨kd, tx, fr, tt⟩ := a
            simp only at hA
            obtain ⟨⟨⟨⟨rfl, rfl⟩, rfl⟩, hs1⟩, hs2⟩ := hA
            simp only at c0 c1 c2 c3
            have HGO := Lib.hid hgd
            clear hgd
            by_cases hk0 : k = 0
            · have hk0' : ((k : Int) == 0) = true := by simpa using hk0
              clear hk0
              go_wp2_with fail
              go_roundw
              case rel => exact ⟨k + 1, q + tx.size, by omega, by go_num, by go_num, by omega, added_next HQ.out HTK.out, good_next HGD.out HA.out HGO.out, HB.out.alloc (by omega) _⟩
              case measure => simp [intOf]; omega
            · have hk0' : ((k : Int) == 0) = false := by simpa using hk0
              clear hk0
              go_wp2_with fail
              go_roundw
              case rel => exact ⟨k + 1, q + tx.size, by omega, by go_num, by go_num, by omega, added_next HQ.out HTK.out, good_next HGD.out HA.out HGO.out, HB.out.alloc (by omega) _⟩
              case measure => simp [intOf]; omega
          | false =>
            have HGA := Lib.hid hA
            clear hA
            cases hK : ((k == 0) && goodK fast.size a) with
            | true =>
              have hgd : good fast.size k a = true := by unfold good; rw [HGA.out, hK]; rfl
              have HGO := Lib.hid hgd
              unfold goodK at hK
              simp at hK
              obtain ⟨kd, tx, fr, tt⟩ := a
              simp only at hK
              obtain ⟨hk0, ⟨⟨⟨rfl, he⟩, hp⟩, hpq⟩, hqs⟩ := hK
              simp only at c0 c1 c2 c3
              have he1 : tx.toList.isEmpty = true := by simpa using he
              have hz : tx.size = 0 := empty_size he1
              obtain rfl : tx = ⟨#[]⟩ := bl_inj (by rw [← List.length_eq_zero_iff.2 (show bl (⟨#[]⟩ : ByteArray) = [] from rfl)] at hz; exact List.length_eq_zero_iff.1 (by rw [← size_bl]; exact hz))
              clear hgd he he1 hz
              have hk0' : ((k : Int) == 0) = true := by simpa using hk0
              clear hk0
              go_wp2_with fail
              go_roundw
              case rel => exact ⟨k + 1, q, by omega, by go_num, by go_num, by omega, added_next (tx := ⟨#[]⟩) HQ.out HTK.out, good_next HGD.out HA.out HGO.out, HB.out.alloc (by omega) _⟩
              case measure => simp [intOf]; omega
            | false =>
              have hgd : good fast.size k a = false := by unfold good; rw [HGA.out, hK]; rfl
              have HF : Hid (D = false) := by show D = false; rw [← HD.out]; exact HBD.out hgd
              have HGK := Lib.hid hK
              clear hK hgd
              go_wp2_with fail
              all_goals first
                | (go_ret; exact ⟨ret_bool (by rw [HF.out]), below_alloc_old (HB.out.alloc (by omega) _)⟩)
                | (exfalso; have hA := HGA.out; have hK := HGK.out; unfold goodA at hA; unfold goodK at hK; simp_all; done)
                | (exfalso; have hA := HGA.out; have hK := HGK.out; unfold goodA at hA; unfold goodK at hK; simp_all; omega)
        · have HF : Hid (D = false) := by show D = false; rw [← HD.out]; exact right_more (by rw [← HQ.out]; omega)
          have hq1 : decide ((q : Int) ≤ room) = false := by simpa using hqr
          clear hcells
          go_wp2_with fail
          go_quiet (fail)
          go_wp2_with fail
          go_ret
          exact ⟨ret_bool (by rw [HF.out]), below_alloc_old (below_drewN HB.out _)⟩
      · obtain rfl : k = l.length := by omega
        have hend := right_end H1.out HGD.out
        rw [HD.out] at hend
        rw [List.take_of_length_le (Nat.le_refl _)] at HQ
        rw [← HQ.out] at hend
        have HE := Lib.hid hend
        clear hend
        by_cases hqr : (q : Int) ≤ room
        · have hkeep : KeepOk fast l := by
            cases l with
            | nil => trivial
            | cons a l =>
              have h0 := HGD.out 0 (by simp)
              intro h2
              simp only [List.getD_cons_zero] at h0
              unfold good goodA goodK at h0
              simp [h2] at h0
              omega
          have HKEEP := Lib.hid hkeep
          have hq1 : decide ((q : Int) ≤ room) = true := by simpa using hqr
          have HLr := Lib.hid ((HL.out.below ((Below.refl _ _).alloc (Nat.le_refl _) _)).below (HB.out.mono (Nat.le_succ _)))
          clear hcells hkeep
          have e0 : wr.cell? ⟨w.heap.size, 0, none⟩ = some (.int .i64 room) := by rw [hcr _ _ (by omega)]; simp
          have e1 : wr.cell? ⟨w.heap.size, 1, none⟩ = some (.string fast) := by rw [hcr _ _ (by omega)]; simp
          have e2 : wr.cell? ⟨w.heap.size, 2, none⟩ = some (.slice A l.length cap) := by rw [hcr _ _ (by omega)]; simp
          have HA0 := Lib.hid (HLr.out.mono (B' := wr.heap.size) (by omega))
          have HA1 := Lib.hid ((HLr.out.below ((Below.refl _ _).drew)).mono (B' := wr.drew.heap.size) (by show w.heap.size ≤ wr.heap.size; omega))
          go_wp2_with fail
          go_region_held3 (fun w' => w'.cell? ⟨w.heap.size, 0, none⟩ = some (.int .i64 room) ∧ w'.cell? ⟨w.heap.size, 1, none⟩ = some (.string fast) ∧ w'.cell? ⟨w.heap.size, 2, none⟩ = some (.slice A l.length cap))
            (first | go_keep | (go_split_ands; refine ⟨?_, ?_, ?_⟩ <;> (rw [(bcell hb1).1 _ _ (by simp; omega)]; first | assumption | (simp; assumption))))
            (first
              | (go_at_call 26
                 refine (rkept_any room fast _ l _ (by first | exact HA0.out | exact HA1.out) HKEEP.out (by omega)).mono ?_
                 rintro e w1 ⟨z, rfl, hz, HZ, hb1⟩))
          have hwr : IntKind.i64.wrap ((z.size : Int) + q) = z.size + q := IntWalk.i64_in _ (by omega)
          rw [hwr]
          clear hwr
          have hb : Below wr.heap.size wr w1 := by first | exact hb1 | exact ((Below.refl _ _).drew).trans hb1
          have HBW := Lib.hid (HB.out.trans (hb.mono (by omega)))
          clear hb hb1
          go_wp2_with fail
          go_ret
          refine ⟨ret_bool ?_, below_alloc_old HBW.out⟩
          rw [HE.out, size_bl, HZ.out]
        · have hf : decide (((keptL (bl fast) l).length : Int) + q ≤ room) = false := by rw [decide_eq_false_iff_not]; omega
          have HF : Hid (D = false) := by show D = false; rw [HE.out]; exact hf
          have hq1 : decide ((q : Int) ≤ room) = false := by simpa using hqr
          clear hcells hf
          go_wp2_with fail
          go_quiet (fail)
          go_wp2_with fail
          go_ret
          exact ⟨ret_bool (by rw [HF.out]), below_alloc_old (below_drewN HB.out _)⟩
end Go.Proofs.YtinkdjeanjhkbaaGreatDoor
