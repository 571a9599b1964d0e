/-
  The walk of ImageKeeps.
-/
import Derived.Test.YtinkdjeanjhkbaaDoorPL
import Derived.Deep.CutRange
import Derived.Deep.Light
import Derived.StillTailTactics
import Derived.Test.YtinkdjeanjhkbaaDoorSM
namespace Go.Proofs.YtinkdjeanjhkbaaDoor
open Go.RowKit
attribute [local go_sem] size_mkB

theorem cell_lt {w : World} {b j : Nat} {v : Value} (h : w.cell? ⟨b, j, none⟩ = some v) : b < w.heap.size := by
  unfold World.cell? at h
  split at h
  · rename_i hh
    exact (Array.getElem?_eq_some_iff.1 hh).1
  · cases h

set_option maxHeartbeats 25600000 in
set_option maxRecDepth 100000 in
theorem keeps_any (n0 : Int) (v : Value) (l : List Wr) (w : World) (hn0 : 0 ≤ n0) (hn1 : n0 < 65536) (hl : WritesIn w.heap.size w v l) (hG : G w) :
    Calls Tryd.prog 3 #[.int .u16 n0, v] w fun e w' => e = .returned (.bool true) ∧ Below w.heap.size w w' := by
  have h5 := hG.low
  obtain ⟨Aw, cw, rfl, hlen, hcut, hcells⟩ := hl
  have HCUT := Lib.hid hcut
  clear hcut
  go_enter Tryd.func3, Tryd.ntmps3
  go_wp2_with fail
  refine (sane_any _ hG).mono ?_
  rintro e w1 ⟨rfl, hb⟩
  have HB_w1 := Lib.hid hb
  have HG_w1 := Lib.hid (hG.below HB_w1.out h5)
  clear hb
  go_wp2_with fail
  obtain ⟨room, hroom⟩ : ∃ room : Int, 1000 + n0 % 5000 = room := ⟨_, rfl⟩
  have hr : 1000 ≤ room ∧ room ≤ 6000000 := by omega
  rw [hroom]
  clear hroom
  have HR := Lib.hid hr
  refine (formatted_any room _ HG_w1.out).mono ?_
  rintro e wa ⟨Aa, ca, ⟨ha, rfl⟩, hb⟩
  rw [formattedR_ok hr] at ha ⊢
  have HB_wa := Lib.hid (HB_w1.out.trans (hb.mono HB_w1.out.size))
  have HG_wa := Lib.hid (hG.below HB_wa.out h5)
  clear hb
  have HA_r_wa := Lib.hid ha
  clear ha
  simp only [rib]
  go_wp2_with fail
  obtain ⟨X1, hX1⟩ : ∃ X1, wa.alloc (.cells #[.int .i64 room, .string (mkB (bytesL 0 [])), .slice Aa 0 ca] 27) = X1 := ⟨_, rfl⟩
  have hb1 : Below wa.heap.size wa X1 := by rw [← hX1]; exact (Below.refl _ _).alloc (Nat.le_refl _) _
  have hbox : X1.heap[wa.heap.size]? = some (.cells #[.int .i64 room, .string (mkB (bytesL 0 [])), .slice Aa 0 ca] 27 (0, 0)) := by rw [← hX1]; exact heap_alloc_new _ _
  have hz1 : X1.heap.size = wa.heap.size + 1 := by rw [← hX1]; simp
  rw [hX1]
  have hnil : Aa = none → ca = 0 := by
    obtain ⟨A', c', e, _, h, _⟩ := HA_r_wa.out
    injection e with e1 _ e2
    subst e1; subst e2
    exact h.1
  have hrow := World.ownsRow_lit (e := 9) (size := 1) X1 #[.string ⟨#[]⟩] 1 (Nat.le_refl X1.heap.size) (by decide) rfl
  obtain ⟨X2, hX2⟩ : ∃ X2, X1.alloc (.cells #[.string ⟨#[]⟩] 9) = X2 := ⟨_, rfl⟩
  have hb2 : Below X1.heap.size X1 X2 := by rw [← hX2]; exact (Below.refl _ _).alloc (Nat.le_refl _) _
  rw [hX2] at hrow
  have HK0 : Hid (KInv w wa.heap.size X1.heap.size room (bytesL 0 []) ca Aa (.slice (some ⟨X1.heap.size, 0, none⟩) 1 1) 0 [] X2) := by
    have hs2 := hb2.size
    exact ⟨(HB_wa.out.trans (hb1.mono HB_wa.out.size)).trans (hb2.mono (by have := HB_wa.out.size; omega)), (hb2.block _ (by omega)).trans hbox, hnil, ⟨_, hrow, rfl⟩, HB_wa.out.size, by omega, by omega, hs2⟩
  rw [← hz1, hX2]
  clear hrow hb1 hb2 hbox hnil
  have HZ1 := Lib.hid hz1
  clear hz1 hX1 hX2
  obtain ⟨rb, hrb⟩ : ∃ rb, wa.heap.size = rb := ⟨_, rfl⟩
  obtain ⟨base, hbase⟩ : ∃ base, X1.heap.size = base := ⟨_, rfl⟩
  rw [hrb] at HK0 ⊢
  rw [hbase] at HK0 ⊢
  clear hrb hbase
  go_loopw [8, 9, 10, 11] (fun mv at_ now i wr => ∃ (k : Nat) (F : List UInt8) (n : Nat) (t : List UInt8) (kk : Nat) (A : Option Addr) (cap : Nat), i = .int .i64 k ∧ k ≤ 24 ∧ k ≤ l.length ∧ now = .int .i64 n ∧ at_ = .int .i64 n ∧ n ≤ k ∧
      Hid (Holds F n t kk) ∧ Hid ((F.length : Int) ≤ room) ∧ Hid (KInv w rb base room F cap A mv n t wr))
    (fun _ _ _ i _ => 24 - (intOf i).toNat)
  case atStart => exact ⟨0, bytesL 0 [], 0, [], 0, Aa, ca, rfl, by decide, Nat.zero_le _, rfl, rfl, Nat.le_refl _, holds0, (by show ((bytesL 0 []).length : Int) ≤ room; rw [len0]; omega), HK0⟩
  case round =>
    obtain ⟨k, F, n, t, kk, A, cap, rfl, hk24, hkl, rfl, rfl, hnk, HH, HF, HK_wr⟩ := hrel
    obtain ⟨g, c, rfl, hgc, hm⟩ := HK_wr.out.may
    have HM_wr := Lib.hid hm
    clear hm HK0
    have HG_wr := Lib.hid (hG.below HK_wr.out.low h5)
    by_cases hlt : k < l.length
    · by_cases h24 : k < 24
      · obtain ⟨b, o, rfl, hb, hall⟩ := hcells (by omega)
        have hx := hall k hlt
        have hcut := HCUT.out k hlt
        clear hall hcells
        generalize l.getD k zWr = x at hx hcut
        have HX_wr := Lib.hid (hx.below hb HK_wr.out.low)
        have HB0 := Lib.hid hb
        have HCX := Lib.hid hcut
        clear hx hcut
        have hN1 : Num ((n : Int) + 1) := num_le (by omega) (by omega)
        have HN1 := Lib.hid hN1
        clear hN1
        by_cases hu : 2000000 < x.text.size
        · as_aux_lemma =>
            have HP := Lib.hid (keep_large HR.out HF.out x.text hu)
            have hu' : (2000000 : Int) < x.text.size := by omega
            obtain ⟨e0, e1, e2⟩ := HK_wr.out.cells
            have x0 : wr.cell? ⟨b, o + k * 5, none⟩ = some (.string x.text) := HX_wr.out.1
            have x1 : wr.cell? ⟨b, o + k * 5 + 1, none⟩ = some (.int .u8 x.cut) := HX_wr.out.2.1
            have x2 : wr.cell? ⟨b, o + k * 5 + 2, none⟩ = some (.int .i64 x.a) := HX_wr.out.2.2.1
            have x3 : wr.cell? ⟨b, o + k * 5 + 3, none⟩ = some (.int .i64 x.b) := HX_wr.out.2.2.2.1
            have x4 : wr.cell? ⟨b, o + k * 5 + 4, none⟩ = some (.int .i64 x.c) := HX_wr.out.2.2.2.2
            have m0 : wr.cell? ⟨g, n, none⟩ = some (.string (mkB t)) := HM_wr.out
            have zr := HK_wr.out.rsize
            have zb := HK_wr.out.rbase
            have zl := HK_wr.out.rlow
            have zx : b < wr.heap.size := by have := HB0.out; have := HK_wr.out.low.size; omega
            go_wp2_with fail
            go_region_held3 (fun w' => w'.cell? ⟨rb, 0, none⟩ = some (.int .i64 room) ∧ w'.cell? ⟨rb, 1, none⟩ = some (.string (mkB F)) ∧ w'.cell? ⟨rb, 2, none⟩ = some (.slice A 0 cap) ∧ w'.cell? ⟨b, o + k * 5, none⟩ = some (.string x.text))
              (first | go_keep | (go_split_ands; refine ⟨?_, ?_, ?_, ?_⟩ <;> (rw [(bcell hb1).1 _ _ (by first | omega | (simp; omega))]; first | assumption | (simp; assumption))))
              (first
                | (go_at_call 9
                   refine (Put_any (rib room F []) _ x.text _ (actsNil HK_wr.out.nil) (by first | exact HG_wr.out | exact HG_wr.out.below ((Below.refl _ _).drew) HG_wr.out.low)).mono ?_
                   rintro e w1 ⟨hb1, he⟩
                   rw [HP.out] at he
                   simp only at he
                   subst he
                 ))
            have hb : Below wr.heap.size wr w1 := by first | exact hb1 | exact ((Below.refl _ _).drew).trans hb1
            clear hb1
            clear e0 e1 e2 x0 x1 x2 x3 x4 m0 zr zb zl zx
            have HK_w1 := Lib.hid (HK_wr.out.below hb)
            have HX_w1 := Lib.hid (HX_wr.out.below (B := wr.heap.size) (by have := HB0.out; have := HK_wr.out.low.size; omega) hb)
            have HM_w1 := Lib.hid ((hb.cell (p := ⟨g, n, none⟩) (cell_lt HM_wr.out)).trans HM_wr.out)
            have HG_w1 := Lib.hid (hG.below HK_w1.out.low h5)
            clear hb
            obtain ⟨e0, e1, e2⟩ := HK_w1.out.cells
            have x0 : w1.cell? ⟨b, o + k * 5, none⟩ = some (.string x.text) := HX_w1.out.1
            have x1 : w1.cell? ⟨b, o + k * 5 + 1, none⟩ = some (.int .u8 x.cut) := HX_w1.out.2.1
            have x2 : w1.cell? ⟨b, o + k * 5 + 2, none⟩ = some (.int .i64 x.a) := HX_w1.out.2.2.1
            have x3 : w1.cell? ⟨b, o + k * 5 + 3, none⟩ = some (.int .i64 x.b) := HX_w1.out.2.2.2.1
            have x4 : w1.cell? ⟨b, o + k * 5 + 4, none⟩ = some (.int .i64 x.c) := HX_w1.out.2.2.2.2
            have m0 : w1.cell? ⟨g, n, none⟩ = some (.string (mkB t)) := HM_w1.out
            have zr := HK_w1.out.rsize
            have zb := HK_w1.out.rbase
            have zl := HK_w1.out.rlow
            have zx : b < w1.heap.size := by have := HB0.out; have := HK_w1.out.low.size; omega
            go_wp2_with fail
            go_roundw
            case rel => exact ⟨k + 1, F, n, t, kk, A, cap, by go_num, by omega, by omega, by go_num, by go_num, by omega, HH, HF, HK_w1⟩
            case measure => simp [intOf]; omega
        · by_cases hroom : room < ((bytesL n t).length : Int) + ((bytesL (n + 1) (bl x.text)).length : Int)
          · as_aux_lemma =>
              have hkr := keep_room HR.out HF.out HH.out HN1.out x.text (by omega) hroom
              have HP := Lib.hid hkr.1
              have hkr2 := hkr.2
              have ht := HH.out.len
              clear hkr
              have hu' : ¬ (2000000 : Int) < x.text.size := by omega
              clear hroom
              obtain ⟨e0, e1, e2⟩ := HK_wr.out.cells
              have x0 : wr.cell? ⟨b, o + k * 5, none⟩ = some (.string x.text) := HX_wr.out.1
              have x1 : wr.cell? ⟨b, o + k * 5 + 1, none⟩ = some (.int .u8 x.cut) := HX_wr.out.2.1
              have x2 : wr.cell? ⟨b, o + k * 5 + 2, none⟩ = some (.int .i64 x.a) := HX_wr.out.2.2.1
              have x3 : wr.cell? ⟨b, o + k * 5 + 3, none⟩ = some (.int .i64 x.b) := HX_wr.out.2.2.2.1
              have x4 : wr.cell? ⟨b, o + k * 5 + 4, none⟩ = some (.int .i64 x.c) := HX_wr.out.2.2.2.2
              have m0 : wr.cell? ⟨g, n, none⟩ = some (.string (mkB t)) := HM_wr.out
              have zr := HK_wr.out.rsize
              have zb := HK_wr.out.rbase
              have zl := HK_wr.out.rlow
              have zx : b < wr.heap.size := by have := HB0.out; have := HK_wr.out.low.size; omega
              go_wp2_with fail
              go_region_held3 (fun w' => w'.cell? ⟨rb, 0, none⟩ = some (.int .i64 room) ∧ w'.cell? ⟨rb, 1, none⟩ = some (.string (mkB F)) ∧ w'.cell? ⟨rb, 2, none⟩ = some (.slice A 0 cap) ∧ w'.cell? ⟨b, o + k * 5, none⟩ = some (.string x.text))
                (first | go_keep | (go_split_ands; refine ⟨?_, ?_, ?_, ?_⟩ <;> (rw [(bcell hb1).1 _ _ (by first | omega | (simp; omega))]; first | assumption | (simp; assumption))))
                (first
                  | (go_at_call 9
                     refine (Put_any (rib room F []) _ x.text _ (actsNil HK_wr.out.nil) (by first | exact HG_wr.out | exact HG_wr.out.below ((Below.refl _ _).drew) HG_wr.out.low)).mono ?_
                     rintro e w1 ⟨hb1, he⟩
                     rw [HP.out] at he
                     simp only at he
                     subst he
                   ))
              have hb : Below wr.heap.size wr w1 := by first | exact hb1 | exact ((Below.refl _ _).drew).trans hb1
              clear hb1
              clear e0 e1 e2 x0 x1 x2 x3 x4 m0 zr zb zl zx
              have HK_w1 := Lib.hid (HK_wr.out.below hb)
              have HX_w1 := Lib.hid (HX_wr.out.below (B := wr.heap.size) (by have := HB0.out; have := HK_wr.out.low.size; omega) hb)
              have HM_w1 := Lib.hid ((hb.cell (p := ⟨g, n, none⟩) (cell_lt HM_wr.out)).trans HM_wr.out)
              have HG_w1 := Lib.hid (hG.below HK_w1.out.low h5)
              clear hb
              obtain ⟨e0, e1, e2⟩ := HK_w1.out.cells
              have x0 : w1.cell? ⟨b, o + k * 5, none⟩ = some (.string x.text) := HX_w1.out.1
              have x1 : w1.cell? ⟨b, o + k * 5 + 1, none⟩ = some (.int .u8 x.cut) := HX_w1.out.2.1
              have x2 : w1.cell? ⟨b, o + k * 5 + 2, none⟩ = some (.int .i64 x.a) := HX_w1.out.2.2.1
              have x3 : w1.cell? ⟨b, o + k * 5 + 3, none⟩ = some (.int .i64 x.b) := HX_w1.out.2.2.2.1
              have x4 : w1.cell? ⟨b, o + k * 5 + 4, none⟩ = some (.int .i64 x.c) := HX_w1.out.2.2.2.2
              have m0 : w1.cell? ⟨g, n, none⟩ = some (.string (mkB t)) := HM_w1.out
              have zr := HK_w1.out.rsize
              have zb := HK_w1.out.rbase
              have zl := HK_w1.out.rlow
              have zx : b < w1.heap.size := by have := HB0.out; have := HK_w1.out.low.size; omega
              have s1 : IntKind.i64.wrap ((t.length : Int) + x.text.size) = t.length + x.text.size := IntWalk.i64_in _ (by omega)
              have s2 : IntKind.i64.wrap ((t.length : Int) + x.text.size + 200) = t.length + x.text.size + 200 := IntWalk.i64_in _ (by omega)
              have s3 : decide ((t.length : Int) + x.text.size + 200 ≤ room) = false := by rw [decide_eq_false_iff_not]; omega
              go_wp2_with fail
              go_quiet (fail)
              clear s1 s2 s3
              go_wp2_with fail
              go_roundw
              case rel => exact ⟨k + 1, F, n, t, kk, A, cap, by go_num, by omega, by omega, by go_num, by go_num, by omega, HH, HF, Lib.hid (HK_w1.out.below (below_drewN (Below.refl _ _) _))⟩
              case measure => simp [intOf]; omega
          · as_aux_lemma =>
              obtain ⟨L, hP, hL4, hL6, hlast, ⟨hact, hlenB, hhold⟩, hcutAll⟩ := keep_put HR.out HF.out HH.out HN1.out x.text (by omega) hroom
              have HP := Lib.hid hP
              have HLAST := Lib.hid hlast
              have HACT := Lib.hid hact
              have HLB := Lib.hid hlenB
              have HHOLD := Lib.hid hhold
              have HCALL := Lib.hid hcutAll
              clear hP hlast hact hlenB hhold hcutAll hroom
              have hu' : ¬ (2000000 : Int) < x.text.size := by omega
              obtain ⟨e0, e1, e2⟩ := HK_wr.out.cells
              have x0 : wr.cell? ⟨b, o + k * 5, none⟩ = some (.string x.text) := HX_wr.out.1
              have x1 : wr.cell? ⟨b, o + k * 5 + 1, none⟩ = some (.int .u8 x.cut) := HX_wr.out.2.1
              have x2 : wr.cell? ⟨b, o + k * 5 + 2, none⟩ = some (.int .i64 x.a) := HX_wr.out.2.2.1
              have x3 : wr.cell? ⟨b, o + k * 5 + 3, none⟩ = some (.int .i64 x.b) := HX_wr.out.2.2.2.1
              have x4 : wr.cell? ⟨b, o + k * 5 + 4, none⟩ = some (.int .i64 x.c) := HX_wr.out.2.2.2.2
              have m0 : wr.cell? ⟨g, n, none⟩ = some (.string (mkB t)) := HM_wr.out
              have zr := HK_wr.out.rsize
              have zb := HK_wr.out.rbase
              have zl := HK_wr.out.rlow
              have zx : b < wr.heap.size := by have := HB0.out; have := HK_wr.out.low.size; omega
              go_wp2_with fail
              go_region_held3 (fun w' => w'.cell? ⟨rb, 0, none⟩ = some (.int .i64 room) ∧ w'.cell? ⟨rb, 1, none⟩ = some (.string (mkB F)) ∧ w'.cell? ⟨rb, 2, none⟩ = some (.slice A 0 cap) ∧ w'.cell? ⟨b, o + k * 5, none⟩ = some (.string x.text))
                (first | go_keep | (go_split_ands; refine ⟨?_, ?_, ?_, ?_⟩ <;> (rw [(bcell hb1).1 _ _ (by first | omega | (simp; omega))]; first | assumption | (simp; assumption))))
                (first
                  | (go_at_call 9
                     refine (Put_any (rib room F []) _ x.text _ (actsNil HK_wr.out.nil) (by first | exact HG_wr.out | exact HG_wr.out.below ((Below.refl _ _).drew) HG_wr.out.low)).mono ?_
                     rintro e w1 ⟨hb1, he⟩
                     rw [HP.out] at he
                     obtain ⟨Al, cl, rfl, HL⟩ := he
                   ))
              have hb : Below wr.heap.size wr w1 := by first | exact hb1 | exact ((Below.refl _ _).drew).trans hb1
              clear hb1
              clear e0 e1 e2 x0 x1 x2 x3 x4 m0 zr zb zl zx
              have HK_w1 := Lib.hid (HK_wr.out.below hb)
              have HX_w1 := Lib.hid (HX_wr.out.below (B := wr.heap.size) (by have := HB0.out; have := HK_wr.out.low.size; omega) hb)
              have HM_w1 := Lib.hid ((hb.cell (p := ⟨g, n, none⟩) (cell_lt HM_wr.out)).trans HM_wr.out)
              have HG_w1 := Lib.hid (hG.below HK_w1.out.low h5)
              clear hb
              have hal := OwnActs.reads HL.out
              have HAL_w1 := Lib.hid hal
              clear HL
              obtain ⟨_, _, hinj, hLc, _, hrow⟩ := hal
              injection hinj with hj1 _ hj2
              subst hj1; subst hj2
              obtain ⟨b', o', rfl, hb', hcell⟩ := hrow (by omega)
              have hl0 := (hcell (L.length - 1) (by omega)).1
              rw [HLAST.out] at hl0
              clear hcell
              have hc0 : 0 ≤ x.cut := HCX.out.1
              have hc1 : x.cut < 256 := HCX.out.2
              have hne : ((L.length : Int) == 0) = false := beq_eq_false_iff_ne.2 (by omega)
              obtain ⟨e0, e1, e2⟩ := HK_w1.out.cells
              have x0 : w1.cell? ⟨b, o + k * 5, none⟩ = some (.string x.text) := HX_w1.out.1
              have x1 : w1.cell? ⟨b, o + k * 5 + 1, none⟩ = some (.int .u8 x.cut) := HX_w1.out.2.1
              have x2 : w1.cell? ⟨b, o + k * 5 + 2, none⟩ = some (.int .i64 x.a) := HX_w1.out.2.2.1
              have x3 : w1.cell? ⟨b, o + k * 5 + 3, none⟩ = some (.int .i64 x.b) := HX_w1.out.2.2.2.1
              have x4 : w1.cell? ⟨b, o + k * 5 + 4, none⟩ = some (.int .i64 x.c) := HX_w1.out.2.2.2.2
              have m0 : w1.cell? ⟨g, n, none⟩ = some (.string (mkB t)) := HM_w1.out
              have zr := HK_w1.out.rsize
              have zb := HK_w1.out.rbase
              have zl := HK_w1.out.rlow
              have zx : b < w1.heap.size := by have := HB0.out; have := HK_w1.out.low.size; omega
              go_wp2_with fail
              have hmin : 0 ≤ min (L.length : Int) x.cut := Int.le_min.2 ⟨by omega, hc0⟩
              have hmin2 : min (L.length : Int) x.cut ≤ L.length := Int.min_le_left _ _
              obtain ⟨cc, hcc⟩ := Int.eq_ofNat_of_zero_le hmin
              rw [hcc] at hmin2 ⊢
              have hcl : cc ≤ L.length := by omega
              clear hcc hmin hmin2 hl0 hne hc0 hc1
              by_cases hw : cc = L.length
              · as_aux_lemma =>
                  subst hw
                  have hcl1 : (L.length : Int) ≤ cl := by omega
                  have hz1 := HK_w1.out.rsize
                  go_cut [15, 16] from 33 to 208 (fun s15 s16 wx => ∃ (nb : Nat) (A2 : Option Addr) (c2 : Nat), s15 = .pointer (some ⟨nb, 0, none⟩) ∧ s16 = .int .i64 0 ∧ Hid (NextAt w1 wx nb (rib room (bytesL ((n : Int) + 1) (bl x.text)) []) A2 c2))
                  case first =>
                    go_region_with (go_at_call 10; refine (act_any (rib room F []) _ _ (L) _ (actsNil HK_wr.out.nil) (acts_up HAL_w1.out (by repeat (first | exact Below.refl _ _ | refine Below.drew ?_ | refine Below.alloc ?_ (by simp) _)) (by simp))).mono ?_; rintro e w2 ⟨A2, c2, he, hb2⟩; rw [HACT.out] at he; obtain ⟨ha2, rfl⟩ := he; have HA2 := Lib.hid ha2; have HB2 := Lib.hid hb2; clear ha2; try (have R2 := hb2.block w1.heap.size (by simp); have R3 : w2.heap[w1.heap.size]? = some (.cells #[.int .i64 0, .string ⟨#[]⟩, .slice none 0 0] 27 (0, 0)) := R2.trans (heap_alloc_new _ _); have g0 : w2.cell? ⟨w1.heap.size, 0, none⟩ = some (.int .i64 0) := Lib.cell_of_heap R3 0; have g1 : w2.cell? ⟨w1.heap.size, 1, none⟩ = some (.string ⟨#[]⟩) := Lib.cell_of_heap R3 1; have g2 : w2.cell? ⟨w1.heap.size, 2, none⟩ = some (.slice none 0 0) := Lib.cell_of_heap R3 2; have g3 := Lib.frozen_of_heap R3; have HR3 := Lib.hid R3; clear R2 R3); clear hb2; simp only [rib])
                    all_goals try dsimp only [rib, List.length_nil]
                    all_goals first
                      | (have hN : NextAt w1 (w2.alloc (.cells #[.int .i64 room, .string (mkB (bytesL ((n : Int) + 1) (bl x.text))), .slice A2 0 c2] 27)) w2.heap.size (rib room (bytesL ((n : Int) + 1) (bl x.text)) []) A2 c2 := next_new (r := (rib room (bytesL ((n : Int) + 1) (bl x.text)) [])) (by repeat (first | exact Below.refl _ _ | refine Below.drew ?_ | refine Below.alloc ?_ (by simp) _)) HB2.out HA2.out
                         go_wp2_with fail
                         go_meet
                         exact ⟨_, A2, c2, rfl, rfl, hN⟩)
                      | (have hN : NextAt w1 (((w2.setCell ⟨w1.heap.size, 0, none⟩ (.int .i64 room)).setCell ⟨w1.heap.size, 1, none⟩ (.string (mkB (bytesL ((n : Int) + 1) (bl x.text))))).setCell ⟨w1.heap.size, 2, none⟩ (.slice A2 0 c2)) w1.heap.size (rib room (bytesL ((n : Int) + 1) (bl x.text)) []) A2 c2 := next_set (r := (rib room (bytesL ((n : Int) + 1) (bl x.text)) [])) (nb := w1.heap.size) (A := A2) (c := c2) (low_of HB2.out (by repeat (first | exact Below.refl _ _ | refine Below.drew ?_ | refine Below.alloc ?_ (by simp) _))) (Nat.le_refl _) HR3.out HA2.out
                         go_wp2_with fail
                         go_meet
                         exact ⟨_, A2, c2, rfl, rfl, hN⟩)
                  case rest =>
                    obtain ⟨nb, A2, c2, rfl, rfl, HN_wc⟩ := hcut
                    clear hz1 e0 e1 e2 x0 x1 x2 x3 x4 m0 zr zb zl zx
                    have HK_wc := Lib.hid (HK_w1.out.below HN_wc.out.low)
                    have HX_wc := Lib.hid (HX_w1.out.below (B := w1.heap.size) (by have := HB0.out; have := HK_w1.out.low.size; omega) HN_wc.out.low)
                    have HM_wc := Lib.hid ((HN_wc.out.low.cell (p := ⟨g, n, none⟩) (cell_lt HM_w1.out)).trans HM_w1.out)
                    have HG_wc := Lib.hid (hG.below HK_wc.out.low h5)
                    obtain ⟨e0, e1, e2⟩ := HK_wc.out.cells
                    have x0 : wc.cell? ⟨b, o + k * 5, none⟩ = some (.string x.text) := HX_wc.out.1
                    have x1 : wc.cell? ⟨b, o + k * 5 + 1, none⟩ = some (.int .u8 x.cut) := HX_wc.out.2.1
                    have x2 : wc.cell? ⟨b, o + k * 5 + 2, none⟩ = some (.int .i64 x.a) := HX_wc.out.2.2.1
                    have x3 : wc.cell? ⟨b, o + k * 5 + 3, none⟩ = some (.int .i64 x.b) := HX_wc.out.2.2.2.1
                    have x4 : wc.cell? ⟨b, o + k * 5 + 4, none⟩ = some (.int .i64 x.c) := HX_wc.out.2.2.2.2
                    have m0 : wc.cell? ⟨g, n, none⟩ = some (.string (mkB t)) := HM_wc.out
                    have zr := HK_wc.out.rsize
                    have zb := HK_wc.out.rbase
                    have zl := HK_wc.out.rlow
                    have zx : b < wc.heap.size := by have := HB0.out; have := HK_wc.out.low.size; omega
                    have n0 : wc.cell? ⟨nb, 0, none⟩ = some (.int .i64 room) := HN_wc.out.cells.1
                    have n1 : wc.cell? ⟨nb, 1, none⟩ = some (.string (mkB (bytesL ((n : Int) + 1) (bl x.text)))) := HN_wc.out.cells.2.1
                    have n2 : wc.cell? ⟨nb, 2, none⟩ = some (.slice A2 0 c2) := HN_wc.out.cells.2.2.1
                    have zn := HN_wc.out.cells.2.2.2.1
                    have nf := HN_wc.out.cells.2.2.2.2
                    go_wp2_with fail
                    refine (get_any (rib room (bytesL ((n : Int) + 1) (bl x.text)) []) _ _ HN_wc.out.acts HG_wc.out).mono ?_
                    rintro e w3 ⟨hb, he⟩
                    rw [getR_ok HR.out HLB.out HHOLD.out, mk_bl] at he
                    simp only at he
                    subst he
                    clear e0 e1 e2 x0 x1 x2 x3 x4 m0 zr zb zl zx
                    clear n0 n1 n2 zn nf
                    have HK_w3 := Lib.hid (HK_wc.out.below hb)
                    have HX_w3 := Lib.hid (HX_wc.out.below (B := wc.heap.size) (by have := HB0.out; have := HK_wc.out.low.size; omega) hb)
                    have HM_w3 := Lib.hid ((hb.cell (p := ⟨g, n, none⟩) (cell_lt HM_wc.out)).trans HM_wc.out)
                    have HG_w3 := Lib.hid (hG.below HK_w3.out.low h5)
                    have HN_w3 := Lib.hid (HN_wc.out.below hb)
                    clear hb
                    obtain ⟨e0, e1, e2⟩ := HK_w3.out.cells
                    have x0 : w3.cell? ⟨b, o + k * 5, none⟩ = some (.string x.text) := HX_w3.out.1
                    have x1 : w3.cell? ⟨b, o + k * 5 + 1, none⟩ = some (.int .u8 x.cut) := HX_w3.out.2.1
                    have x2 : w3.cell? ⟨b, o + k * 5 + 2, none⟩ = some (.int .i64 x.a) := HX_w3.out.2.2.1
                    have x3 : w3.cell? ⟨b, o + k * 5 + 3, none⟩ = some (.int .i64 x.b) := HX_w3.out.2.2.2.1
                    have x4 : w3.cell? ⟨b, o + k * 5 + 4, none⟩ = some (.int .i64 x.c) := HX_w3.out.2.2.2.2
                    have m0 : w3.cell? ⟨g, n, none⟩ = some (.string (mkB t)) := HM_w3.out
                    have zr := HK_w3.out.rsize
                    have zb := HK_w3.out.rbase
                    have zl := HK_w3.out.rlow
                    have zx : b < w3.heap.size := by have := HB0.out; have := HK_w3.out.low.size; omega
                    have n0 : w3.cell? ⟨nb, 0, none⟩ = some (.int .i64 room) := HN_w3.out.cells.1
                    have n1 : w3.cell? ⟨nb, 1, none⟩ = some (.string (mkB (bytesL ((n : Int) + 1) (bl x.text)))) := HN_w3.out.cells.2.1
                    have n2 : w3.cell? ⟨nb, 2, none⟩ = some (.slice A2 0 c2) := HN_w3.out.cells.2.2.1
                    have zn := HN_w3.out.cells.2.2.2.1
                    have nf := HN_w3.out.cells.2.2.2.2
                    have hnn : ((n : Int) + 1 == (n : Int)) = false := beq_eq_false_iff_ne.2 (by omega)
                    have HHX := HHOLD
                    by_cases hq : x.text.toList = (mkB t).toList
                    all_goals
                      obtain ⟨ms, hms1, hms2⟩ := HK_w3.out.row
                      have hml : ms.length = n + 1 := by simpa using hms1.1
                      have hmlt := hms1.lt
                      have HROW := Lib.hid hms1
                      have HMLT := Lib.hid hmlt
                      have HML := Lib.hid hml
                      clear hms1 hms2 hmlt hml
                      have hbs := HK_w3.out.bsize
                      have hgn : g < w1.heap.size := cell_lt HM_w1.out
                      have hnl := HN_w3.out.lo
                      obtain ⟨i0, hi0, hz0, hz1', hz2'⟩ := info_parts infoStr
                      have k1 : ∀ (j : Nat) (u : Value), [Value.string x.text][j]? = some u → (w3.alloc (.cells #[.string x.text] 9)).cell? ((⟨w3.heap.size, 0, none⟩ : Addr).add j) = some u := fun j u hu => by rw [addr_add, Nat.zero_add, World.cell?_alloc_new]; simpa using hu
                      have k2 : ∀ u, u ∈ [Value.string x.text] → u.oneCell' = true := fun u hu => by simp at hu; subst hu; rfl
                      have k3 : n + 1 + 1 ≤ maxLen := by unfold maxLen; omega
                      have k4 : (n + 1 + 1) * 16 ≤ 140737488355328 := by omega
                      have k5 : base ≤ (w3.alloc (.cells #[.string x.text] 9)).heap.size := by simp; omega
                      have K1 := Lib.hid k1
                      have K2 := Lib.hid k2
                      have K3 := Lib.hid k3
                      have K4 := Lib.hid k4
                      have K5 := Lib.hid k5
                      clear k1 k2 k3 k4 k5
                      go_wp2_with (at_builtin; refine wpList_append_own _ rfl _ _ 30 rfl base 9 i0 _ 1 16 Tryd.underlying30 hi0 hz0 hz1' hz2' rfl (by decide) _ _ _ rfl (HROW.out.alloc _) ⟨w3.heap.size, 0, none⟩ 1 1 [.string x.text] rfl rfl K1.out K2.out K3.out K4.out K5.out ?_)
                      intro v5 w5 hown5 hgr5 _
                      obtain ⟨A5, c5, rfl⟩ := own_form hown5
                      have hkx := (HK_w3.out.below ((Below.refl _ _).alloc (Nat.le_refl _) (.cells #[.string x.text] 9))).append (t' := bl x.text) (by rw [mk_bl]; exact hown5) HML.out hgr5 (fun g h => (HMLT.out g h).1)
                      have HK_w5 := Lib.hid hkx
                      have hnx : w5.heap[nb]? = some (.cells #[.int .i64 room, .string (mkB (bytesL ((n : Int) + 1) (bl x.text))), .slice A2 0 c2] 27 (0, 0)) := (hgr5.block nb (by simp; omega) (fun e => by have e' : nb = g := Option.some.inj e; omega)).trans ((Below.heap_alloc _ _ _ zn).trans HN_w3.out.box)
                      clear e0 e1 e2 x0 x1 x2 x3 x4 m0 zr zb zl zx n0 n1 n2 zn nf hkx hown5 hgr5
                      have n0 : w5.cell? ⟨nb, 0, none⟩ = some (.int .i64 room) := Lib.cell_of_heap hnx 0
                      have n1 : w5.cell? ⟨nb, 1, none⟩ = some (.string (mkB (bytesL ((n : Int) + 1) (bl x.text)))) := Lib.cell_of_heap hnx 1
                      have n2 : w5.cell? ⟨nb, 2, none⟩ = some (.slice A2 0 c2) := Lib.cell_of_heap hnx 2
                      clear hnx
                      obtain ⟨e0, e1, e2⟩ := HK_w5.out.cells
                      have ef := Lib.frozen_of_heap HK_w5.out.box
                      have zr := HK_w5.out.rsize
                      go_wp2_with fail
                      go_roundw
                      case rel => exact ⟨k + 1, bytesL ((n : Int) + 1) (bl x.text), n + 1, bl x.text, _, A2, c2, by go_num, by omega, by omega, by go_num, by go_num, by omega, HHX, HLB, Lib.hid (HK_w5.out.set (acts_nil_cap HN_w3.out.acts))⟩
                      case measure => simp [intOf]; omega
              · as_aux_lemma =>
                  have hlt' : cc < L.length := by omega
                  obtain ⟨r', hr', hlose⟩ := HCALL.out cc hlt'
                  have HR' := Lib.hid hr'
                  have hfl := hlose x.a x.b x.c
                  obtain ⟨F', hF1, hF2, hF3⟩ := hfl
                  have HFL := Lib.hid hF1
                  have HF2 := Lib.hid hF2
                  have HF3 := Lib.hid hF3
                  clear hr' hlose hF1 hF2 hF3
                  have hwb : ((cc : Int) == (L.length : Int)) = false := beq_eq_false_iff_ne.2 (by omega)
                  have HW := Lib.hid hw
                  clear hw
                  have hcl1 : (cc : Int) ≤ cl := by omega
                  have hz1 := HK_w1.out.rsize
                  go_cut [15, 16] from 33 to 208 (fun s15 s16 wx => ∃ (nb : Nat) (A2 : Option Addr) (c2 : Nat), s15 = .pointer (some ⟨nb, 0, none⟩) ∧ s16 = .int .i64 0 ∧ Hid (NextAt w1 wx nb r' A2 c2))
                  case first =>
                    go_region_with (go_at_call 10; refine (act_any (rib room F []) _ _ (L.take cc) _ (actsNil HK_wr.out.nil) (acts_up (actsTake HAL_w1.out cc hcl) (by repeat (first | exact Below.refl _ _ | refine Below.drew ?_ | refine Below.alloc ?_ (by simp) _)) (by simp))).mono ?_; rintro e w2 ⟨A2, c2, he, hb2⟩; rw [HR'.out] at he; obtain ⟨ha2, rfl⟩ := he; have HA2 := Lib.hid ha2; have HB2 := Lib.hid hb2; clear ha2; try (have R2 := hb2.block w1.heap.size (by simp); have R3 : w2.heap[w1.heap.size]? = some (.cells #[.int .i64 0, .string ⟨#[]⟩, .slice none 0 0] 27 (0, 0)) := R2.trans (heap_alloc_new _ _); have g0 : w2.cell? ⟨w1.heap.size, 0, none⟩ = some (.int .i64 0) := Lib.cell_of_heap R3 0; have g1 : w2.cell? ⟨w1.heap.size, 1, none⟩ = some (.string ⟨#[]⟩) := Lib.cell_of_heap R3 1; have g2 : w2.cell? ⟨w1.heap.size, 2, none⟩ = some (.slice none 0 0) := Lib.cell_of_heap R3 2; have g3 := Lib.frozen_of_heap R3; have HR3 := Lib.hid R3; clear R2 R3); clear hb2; simp only [rib])
                    all_goals try dsimp only [rib, List.length_nil]
                    all_goals first
                      | (have hN : NextAt w1 (w2.alloc (.cells #[.int .i64 r'.room, .string r'.fast, .slice A2 r'.acts.length c2] 27)) w2.heap.size r' A2 c2 := next_new (r := r') (by repeat (first | exact Below.refl _ _ | refine Below.drew ?_ | refine Below.alloc ?_ (by simp) _)) HB2.out HA2.out
                         go_wp2_with fail
                         go_meet
                         exact ⟨_, A2, c2, rfl, rfl, hN⟩)
                      | (have hN : NextAt w1 (((w2.setCell ⟨w1.heap.size, 0, none⟩ (.int .i64 r'.room)).setCell ⟨w1.heap.size, 1, none⟩ (.string r'.fast)).setCell ⟨w1.heap.size, 2, none⟩ (.slice A2 r'.acts.length c2)) w1.heap.size r' A2 c2 := next_set (r := r') (nb := w1.heap.size) (A := A2) (c := c2) (low_of HB2.out (by repeat (first | exact Below.refl _ _ | refine Below.drew ?_ | refine Below.alloc ?_ (by simp) _))) (Nat.le_refl _) HR3.out HA2.out
                         go_wp2_with fail
                         go_meet
                         exact ⟨_, A2, c2, rfl, rfl, hN⟩)
                  case rest =>
                    obtain ⟨nb, A2, c2, rfl, rfl, HN_wc⟩ := hcut
                    clear hz1 e0 e1 e2 x0 x1 x2 x3 x4 m0 zr zb zl zx
                    have HK_wc := Lib.hid (HK_w1.out.below HN_wc.out.low)
                    have HX_wc := Lib.hid (HX_w1.out.below (B := w1.heap.size) (by have := HB0.out; have := HK_w1.out.low.size; omega) HN_wc.out.low)
                    have HM_wc := Lib.hid ((HN_wc.out.low.cell (p := ⟨g, n, none⟩) (cell_lt HM_w1.out)).trans HM_w1.out)
                    have HG_wc := Lib.hid (hG.below HK_wc.out.low h5)
                    obtain ⟨e0, e1, e2⟩ := HK_wc.out.cells
                    have x0 : wc.cell? ⟨b, o + k * 5, none⟩ = some (.string x.text) := HX_wc.out.1
                    have x1 : wc.cell? ⟨b, o + k * 5 + 1, none⟩ = some (.int .u8 x.cut) := HX_wc.out.2.1
                    have x2 : wc.cell? ⟨b, o + k * 5 + 2, none⟩ = some (.int .i64 x.a) := HX_wc.out.2.2.1
                    have x3 : wc.cell? ⟨b, o + k * 5 + 3, none⟩ = some (.int .i64 x.b) := HX_wc.out.2.2.2.1
                    have x4 : wc.cell? ⟨b, o + k * 5 + 4, none⟩ = some (.int .i64 x.c) := HX_wc.out.2.2.2.2
                    have m0 : wc.cell? ⟨g, n, none⟩ = some (.string (mkB t)) := HM_wc.out
                    have zr := HK_wc.out.rsize
                    have zb := HK_wc.out.rbase
                    have zl := HK_wc.out.rlow
                    have zx : b < wc.heap.size := by have := HB0.out; have := HK_wc.out.low.size; omega
                    have n0 : wc.cell? ⟨nb, 0, none⟩ = some (.int .i64 r'.room) := HN_wc.out.cells.1
                    have n1 : wc.cell? ⟨nb, 1, none⟩ = some (.string r'.fast) := HN_wc.out.cells.2.1
                    have n2 : wc.cell? ⟨nb, 2, none⟩ = some (.slice A2 r'.acts.length c2) := HN_wc.out.cells.2.2.1
                    have zn := HN_wc.out.cells.2.2.2.1
                    have nf := HN_wc.out.cells.2.2.2.2
                    have hbn : b ≠ nb := by have := HN_wc.out.lo; have := HB0.out; have := HK_w1.out.low.size; omega
                    go_wp2_with fail
                    go_cut [16] from 33 to 208 (fun s16 wx => ∃ (A4 : Option Addr) (c4 : Nat), s16 = .int .i64 0 ∧ Hid (NextAt w1 wx nb (rib room F' []) A4 c4))
                    case first =>
                      as_aux_lemma =>
                        refine wp_region_still_any 19 (by kernel_rfl) (by kernel_rfl) ?_
                        simp only [List.take_succ_cons, List.take_zero]
                        repeat still_step
                        refine wpStill_nil ?_
                        change wpAny _ _ _ _ _ _ _ (World.drew _)
                        refine wpAny_ready (rs := [19]) (by kernel_rfl) (by simp) ?_
                        refine AllReady.cons rfl (fun K hK => ?_) ?_
                        · go_simp
                          go_wp2_with (go_at_call 11; refine (lose_any r' _ x.a x.b x.c _ (acts_up HN_wc.out.acts (by repeat (first | exact Below.refl _ _ | refine Below.drew ?_ | refine Below.alloc ?_ (by simp) _)) (by simp))).mono ?_; rintro e w4 ⟨A4, c4, he, hb4⟩; rw [HFL.out] at he; obtain ⟨ha4, rfl⟩ := he; have HA4 := Lib.hid ha4; have HN4 := Lib.hid (HN_wc.out.below (low_of hb4 (by repeat (first | exact Below.refl _ _ | refine Below.drew ?_ | refine Below.alloc ?_ (by simp) _)))); have q0 : w4.cell? ⟨nb, 0, none⟩ = some (.int .i64 r'.room) := HN4.out.cells.1; have q1 : w4.cell? ⟨nb, 1, none⟩ = some (.string r'.fast) := HN4.out.cells.2.1; have q2 : w4.cell? ⟨nb, 2, none⟩ = some (.slice A2 r'.acts.length c2) := HN4.out.cells.2.2.1; have q3 := HN4.out.cells.2.2.2.2; clear ha4 hb4 x2 x3 x4 n0 n1 n2 nf; simp only [rib])
                          refine wpAny_ready (rs := [20]) (by kernel_rfl) (by simp) ?_
                          refine AllReady.cons rfl (fun K hK => ?_) ?_
                          · go_simp
                            refine hK _ _ ?_
                            clear hK K
                            refine wpAny_ready (rs := [21, 22]) (by kernel_rfl) (by simp) ?_
                            refine AllReady.cons rfl (fun K hK => ?_) ?_
                            · go_simp
                              refine hK _ _ ?_
                              clear hK K
                              refine wpAny_ready (rs := [22, 23]) (by kernel_rfl) (by simp) ?_
                              refine AllReady.cons rfl (fun K hK => ?_) ?_
                              · go_simp
                                refine hK _ _ ?_
                                clear hK K
                                refine wpAny_ready (rs := [23]) (by kernel_rfl) (by simp) ?_
                                refine AllReady.cons rfl (fun K hK => ?_) ?_
                                · go_simp
                                  refine hK _ _ ?_
                                  clear hK K
                                  refine wpAny_ready (rs := [24]) (by kernel_rfl) (by simp) ?_
                                  refine AllReady.cons rfl (fun K hK => ?_) ?_
                                  · go_simp
                                    refine hK _ _ ?_
                                    clear hK K
                                    refine wpAny_done (by kernel_rfl) ?_ _
                                    try dsimp only [rib, List.length_nil]
                                    have hN : NextAt w1 (((w4.setCell ⟨nb, 0, none⟩ (.int .i64 room)).setCell ⟨nb, 1, none⟩ (.string (mkB F'))).setCell ⟨nb, 2, none⟩ (.slice A4 0 c4)) nb (rib room F' []) A4 c4 := next_set (r := rib room F' []) (nb := nb) (A := A4) (c := c4) HN4.out.low HN4.out.lo HN4.out.box HA4.out
                                    go_wp2_with fail
                                    go_meet
                                    exact ⟨A4, c4, rfl, hN⟩
                                  exact AllReady.nil
                                exact AllReady.nil
                              refine AllReady.cons rfl (fun K hK => ?_) ?_
                              · go_simp
                                refine hK _ _ ?_
                                clear hK K
                                refine wpAny_ready (rs := [22]) (by kernel_rfl) (by simp) ?_
                                refine AllReady.cons rfl (fun K hK => ?_) ?_
                                · go_simp
                                  refine hK _ _ ?_
                                  clear hK K
                                  refine wpAny_ready (rs := [24]) (by kernel_rfl) (by simp) ?_
                                  refine AllReady.cons rfl (fun K hK => ?_) ?_
                                  · go_simp
                                    refine hK _ _ ?_
                                    clear hK K
                                    refine wpAny_done (by kernel_rfl) ?_ _
                                    try dsimp only [rib, List.length_nil]
                                    have hN : NextAt w1 (((w4.setCell ⟨nb, 0, none⟩ (.int .i64 room)).setCell ⟨nb, 1, none⟩ (.string (mkB F'))).setCell ⟨nb, 2, none⟩ (.slice A4 0 c4)) nb (rib room F' []) A4 c4 := next_set (r := rib room F' []) (nb := nb) (A := A4) (c := c4) HN4.out.low HN4.out.lo HN4.out.box HA4.out
                                    go_wp2_with fail
                                    go_meet
                                    exact ⟨A4, c4, rfl, hN⟩
                                  exact AllReady.nil
                                exact AllReady.nil
                              exact AllReady.nil
                            refine AllReady.cons rfl (fun K hK => ?_) ?_
                            · go_simp
                              refine hK _ _ ?_
                              clear hK K
                              refine wpAny_ready (rs := [21]) (by kernel_rfl) (by simp) ?_
                              refine AllReady.cons rfl (fun K hK => ?_) ?_
                              · go_simp
                                refine hK _ _ ?_
                                clear hK K
                                refine wpAny_ready (rs := [23]) (by kernel_rfl) (by simp) ?_
                                refine AllReady.cons rfl (fun K hK => ?_) ?_
                                · go_simp
                                  refine hK _ _ ?_
                                  clear hK K
                                  refine wpAny_ready (rs := [24]) (by kernel_rfl) (by simp) ?_
                                  refine AllReady.cons rfl (fun K hK => ?_) ?_
                                  · go_simp
                                    refine hK _ _ ?_
                                    clear hK K
                                    refine wpAny_done (by kernel_rfl) ?_ _
                                    try dsimp only [rib, List.length_nil]
                                    have hN : NextAt w1 (((w4.setCell ⟨nb, 0, none⟩ (.int .i64 room)).setCell ⟨nb, 1, none⟩ (.string (mkB F'))).setCell ⟨nb, 2, none⟩ (.slice A4 0 c4)) nb (rib room F' []) A4 c4 := next_set (r := rib room F' []) (nb := nb) (A := A4) (c := c4) HN4.out.low HN4.out.lo HN4.out.box HA4.out
                                    go_wp2_with fail
                                    go_meet
                                    exact ⟨A4, c4, rfl, hN⟩
                                  exact AllReady.nil
                                exact AllReady.nil
                              exact AllReady.nil
                            exact AllReady.nil
                          exact AllReady.nil
                        exact AllReady.nil
                    case rest =>
                      obtain ⟨Wg, rfl⟩ : ∃ Wg : World, Wg = wc := ⟨_, rfl⟩
                      obtain ⟨A4, c4, rfl, HN_Wg⟩ := hcut
                      clear e0 e1 e2 x0 x1 x2 x3 x4 m0 zr zb zl zx n0 n1 n2 zn nf
                      have HK_Wg := Lib.hid (HK_w1.out.below HN_Wg.out.low)
                      have HX_Wg := Lib.hid (HX_w1.out.below (B := w1.heap.size) (by have := HB0.out; have := HK_w1.out.low.size; omega) HN_Wg.out.low)
                      have HM_Wg := Lib.hid ((HN_Wg.out.low.cell (p := ⟨g, n, none⟩) (cell_lt HM_w1.out)).trans HM_w1.out)
                      have HG_Wg := Lib.hid (hG.below HK_Wg.out.low h5)
                      obtain ⟨e0, e1, e2⟩ := HK_Wg.out.cells
                      have x0 : Wg.cell? ⟨b, o + k * 5, none⟩ = some (.string x.text) := HX_Wg.out.1
                      have x1 : Wg.cell? ⟨b, o + k * 5 + 1, none⟩ = some (.int .u8 x.cut) := HX_Wg.out.2.1
                      have x2 : Wg.cell? ⟨b, o + k * 5 + 2, none⟩ = some (.int .i64 x.a) := HX_Wg.out.2.2.1
                      have x3 : Wg.cell? ⟨b, o + k * 5 + 3, none⟩ = some (.int .i64 x.b) := HX_Wg.out.2.2.2.1
                      have x4 : Wg.cell? ⟨b, o + k * 5 + 4, none⟩ = some (.int .i64 x.c) := HX_Wg.out.2.2.2.2
                      have m0 : Wg.cell? ⟨g, n, none⟩ = some (.string (mkB t)) := HM_Wg.out
                      have zr := HK_Wg.out.rsize
                      have zb := HK_Wg.out.rbase
                      have zl := HK_Wg.out.rlow
                      have zx : b < Wg.heap.size := by have := HB0.out; have := HK_Wg.out.low.size; omega
                      have n0 : Wg.cell? ⟨nb, 0, none⟩ = some (.int .i64 room) := HN_Wg.out.cells.1
                      have n1 : Wg.cell? ⟨nb, 1, none⟩ = some (.string (mkB F')) := HN_Wg.out.cells.2.1
                      have n2 : Wg.cell? ⟨nb, 2, none⟩ = some (.slice A4 0 c4) := HN_Wg.out.cells.2.2.1
                      have zn := HN_Wg.out.cells.2.2.2.1
                      have nf := HN_Wg.out.cells.2.2.2.2
                      have HLB := HF2
                      rcases HF3.out with ⟨k', hk'⟩ | ⟨k', hk'⟩
                      · as_aux_lemma =>
                          have HHX := Lib.hid hk'
                          clear hk'
                          go_wp2_with fail
                          refine (get_any (rib room F' []) _ _ HN_Wg.out.acts HG_Wg.out).mono ?_
                          rintro e w3 ⟨hb, he⟩
                          rw [getR_ok HR.out HF2.out HHX.out] at he
                          simp only at he
                          subst he
                          clear e0 e1 e2 x0 x1 x2 x3 x4 m0 zr zb zl zx
                          clear n0 n1 n2 zn nf
                          have HK_w3 := Lib.hid (HK_Wg.out.below hb)
                          have HX_w3 := Lib.hid (HX_Wg.out.below (B := Wg.heap.size) (by have := HB0.out; have := HK_Wg.out.low.size; omega) hb)
                          have HM_w3 := Lib.hid ((hb.cell (p := ⟨g, n, none⟩) (cell_lt HM_Wg.out)).trans HM_Wg.out)
                          have HG_w3 := Lib.hid (hG.below HK_w3.out.low h5)
                          have HN_w3 := Lib.hid (HN_Wg.out.below hb)
                          clear hb
                          obtain ⟨e0, e1, e2⟩ := HK_w3.out.cells
                          have x0 : w3.cell? ⟨b, o + k * 5, none⟩ = some (.string x.text) := HX_w3.out.1
                          have x1 : w3.cell? ⟨b, o + k * 5 + 1, none⟩ = some (.int .u8 x.cut) := HX_w3.out.2.1
                          have x2 : w3.cell? ⟨b, o + k * 5 + 2, none⟩ = some (.int .i64 x.a) := HX_w3.out.2.2.1
                          have x3 : w3.cell? ⟨b, o + k * 5 + 3, none⟩ = some (.int .i64 x.b) := HX_w3.out.2.2.2.1
                          have x4 : w3.cell? ⟨b, o + k * 5 + 4, none⟩ = some (.int .i64 x.c) := HX_w3.out.2.2.2.2
                          have m0 : w3.cell? ⟨g, n, none⟩ = some (.string (mkB t)) := HM_w3.out
                          have zr := HK_w3.out.rsize
                          have zb := HK_w3.out.rbase
                          have zl := HK_w3.out.rlow
                          have zx : b < w3.heap.size := by have := HB0.out; have := HK_w3.out.low.size; omega
                          have n0 : w3.cell? ⟨nb, 0, none⟩ = some (.int .i64 room) := HN_w3.out.cells.1
                          have n1 : w3.cell? ⟨nb, 1, none⟩ = some (.string (mkB F')) := HN_w3.out.cells.2.1
                          have n2 : w3.cell? ⟨nb, 2, none⟩ = some (.slice A4 0 c4) := HN_w3.out.cells.2.2.1
                          have zn := HN_w3.out.cells.2.2.2.1
                          have nf := HN_w3.out.cells.2.2.2.2
                          have hnn : ((n : Int) == (n : Int) + 1) = false := beq_eq_false_iff_ne.2 (by omega)
                          have ef := Lib.frozen_of_heap HK_w3.out.box
                          by_cases hq : (mkB t).toList = x.text.toList
                          all_goals
                            go_wp2_with fail
                            go_roundw
                            case rel => exact ⟨k + 1, F', n, t, k', A4, c4, by go_num, by omega, by omega, rfl, rfl, by omega, HHX, HF2, Lib.hid (HK_w3.out.set (acts_nil_cap HN_w3.out.acts))⟩
                            case measure => simp [intOf]; omega
                      · as_aux_lemma =>
                          have HHX := Lib.hid hk'
                          clear hk'
                          go_wp2_with fail
                          refine (get_any (rib room F' []) _ _ HN_Wg.out.acts HG_Wg.out).mono ?_
                          rintro e w3 ⟨hb, he⟩
                          rw [getR_ok HR.out HF2.out HHX.out, mk_bl] at he
                          simp only at he
                          subst he
                          clear e0 e1 e2 x0 x1 x2 x3 x4 m0 zr zb zl zx
                          clear n0 n1 n2 zn nf
                          have HK_w3 := Lib.hid (HK_Wg.out.below hb)
                          have HX_w3 := Lib.hid (HX_Wg.out.below (B := Wg.heap.size) (by have := HB0.out; have := HK_Wg.out.low.size; omega) hb)
                          have HM_w3 := Lib.hid ((hb.cell (p := ⟨g, n, none⟩) (cell_lt HM_Wg.out)).trans HM_Wg.out)
                          have HG_w3 := Lib.hid (hG.below HK_w3.out.low h5)
                          have HN_w3 := Lib.hid (HN_Wg.out.below hb)
                          clear hb
                          obtain ⟨e0, e1, e2⟩ := HK_w3.out.cells
                          have x0 : w3.cell? ⟨b, o + k * 5, none⟩ = some (.string x.text) := HX_w3.out.1
                          have x1 : w3.cell? ⟨b, o + k * 5 + 1, none⟩ = some (.int .u8 x.cut) := HX_w3.out.2.1
                          have x2 : w3.cell? ⟨b, o + k * 5 + 2, none⟩ = some (.int .i64 x.a) := HX_w3.out.2.2.1
                          have x3 : w3.cell? ⟨b, o + k * 5 + 3, none⟩ = some (.int .i64 x.b) := HX_w3.out.2.2.2.1
                          have x4 : w3.cell? ⟨b, o + k * 5 + 4, none⟩ = some (.int .i64 x.c) := HX_w3.out.2.2.2.2
                          have m0 : w3.cell? ⟨g, n, none⟩ = some (.string (mkB t)) := HM_w3.out
                          have zr := HK_w3.out.rsize
                          have zb := HK_w3.out.rbase
                          have zl := HK_w3.out.rlow
                          have zx : b < w3.heap.size := by have := HB0.out; have := HK_w3.out.low.size; omega
                          have n0 : w3.cell? ⟨nb, 0, none⟩ = some (.int .i64 room) := HN_w3.out.cells.1
                          have n1 : w3.cell? ⟨nb, 1, none⟩ = some (.string (mkB F')) := HN_w3.out.cells.2.1
                          have n2 : w3.cell? ⟨nb, 2, none⟩ = some (.slice A4 0 c4) := HN_w3.out.cells.2.2.1
                          have zn := HN_w3.out.cells.2.2.2.1
                          have nf := HN_w3.out.cells.2.2.2.2
                          have hnn : ((n : Int) + 1 == (n : Int)) = false := beq_eq_false_iff_ne.2 (by omega)
                          by_cases hq : x.text.toList = (mkB t).toList
                          all_goals
                            obtain ⟨ms, hms1, hms2⟩ := HK_w3.out.row
                            have hml : ms.length = n + 1 := by simpa using hms1.1
                            have hmlt := hms1.lt
                            have HROW := Lib.hid hms1
                            have HMLT := Lib.hid hmlt
                            have HML := Lib.hid hml
                            clear hms1 hms2 hmlt hml
                            have hbs := HK_w3.out.bsize
                            have hgn : g < w1.heap.size := cell_lt HM_w1.out
                            have hnl := HN_w3.out.lo
                            obtain ⟨i0, hi0, hz0, hz1', hz2'⟩ := info_parts infoStr
                            have k1 : ∀ (j : Nat) (u : Value), [Value.string x.text][j]? = some u → (w3.alloc (.cells #[.string x.text] 9)).cell? ((⟨w3.heap.size, 0, none⟩ : Addr).add j) = some u := fun j u hu => by rw [addr_add, Nat.zero_add, World.cell?_alloc_new]; simpa using hu
                            have k2 : ∀ u, u ∈ [Value.string x.text] → u.oneCell' = true := fun u hu => by simp at hu; subst hu; rfl
                            have k3 : n + 1 + 1 ≤ maxLen := by unfold maxLen; omega
                            have k4 : (n + 1 + 1) * 16 ≤ 140737488355328 := by omega
                            have k5 : base ≤ (w3.alloc (.cells #[.string x.text] 9)).heap.size := by simp; omega
                            have K1 := Lib.hid k1
                            have K2 := Lib.hid k2
                            have K3 := Lib.hid k3
                            have K4 := Lib.hid k4
                            have K5 := Lib.hid k5
                            clear k1 k2 k3 k4 k5
                            go_wp2_with (at_builtin; refine wpList_append_own _ rfl _ _ 30 rfl base 9 i0 _ 1 16 Tryd.underlying30 hi0 hz0 hz1' hz2' rfl (by decide) _ _ _ rfl (HROW.out.alloc _) ⟨w3.heap.size, 0, none⟩ 1 1 [.string x.text] rfl rfl K1.out K2.out K3.out K4.out K5.out ?_)
                            intro v5 w5 hown5 hgr5 _
                            obtain ⟨A5, c5, rfl⟩ := own_form hown5
                            have hkx := (HK_w3.out.below ((Below.refl _ _).alloc (Nat.le_refl _) (.cells #[.string x.text] 9))).append (t' := bl x.text) (by rw [mk_bl]; exact hown5) HML.out hgr5 (fun g h => (HMLT.out g h).1)
                            have HK_w5 := Lib.hid hkx
                            have hnx : w5.heap[nb]? = some (.cells #[.int .i64 room, .string (mkB (F')), .slice A4 0 c4] 27 (0, 0)) := (hgr5.block nb (by simp; omega) (fun e => by have e' : nb = g := Option.some.inj e; omega)).trans ((Below.heap_alloc _ _ _ zn).trans HN_w3.out.box)
                            clear e0 e1 e2 x0 x1 x2 x3 x4 m0 zr zb zl zx n0 n1 n2 zn nf hkx hown5 hgr5
                            have n0 : w5.cell? ⟨nb, 0, none⟩ = some (.int .i64 room) := Lib.cell_of_heap hnx 0
                            have n1 : w5.cell? ⟨nb, 1, none⟩ = some (.string (mkB (F'))) := Lib.cell_of_heap hnx 1
                            have n2 : w5.cell? ⟨nb, 2, none⟩ = some (.slice A4 0 c4) := Lib.cell_of_heap hnx 2
                            clear hnx
                            obtain ⟨e0, e1, e2⟩ := HK_w5.out.cells
                            have ef := Lib.frozen_of_heap HK_w5.out.box
                            have zr := HK_w5.out.rsize
                            go_wp2_with fail
                            go_roundw
                            case rel => exact ⟨k + 1, F', n + 1, bl x.text, _, A4, c4, by go_num, by omega, by omega, by go_num, by go_num, by omega, HHX, HLB, Lib.hid (HK_w5.out.set (acts_nil_cap HN_w3.out.acts))⟩
                            case measure => simp [intOf]; omega
      · as_aux_lemma =>
          have e24 : k = 24 := by omega
          subst e24
          clear hcells
          go_wp2_with fail
          go_ret
          exact ⟨rfl, HK_wr.out.low⟩
    · as_aux_lemma =>
        have el : k = l.length := by omega
        subst el
        clear hcells
        go_wp2_with fail
        go_ret
        exact ⟨rfl, HK_wr.out.low⟩
end Go.Proofs.YtinkdjeanjhkbaaDoor
