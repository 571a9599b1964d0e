/-
  The walk of ImageAny.
-/
import Derived.Test.YtinkdjeanjhkbaaDoorZ
namespace Go.Proofs.YtinkdjeanjhkbaaDoor
open Go.RowKit
attribute [local go_sem] size_mkB

set_option maxHeartbeats 6400000 in
set_option maxRecDepth 100000 in
theorem any_any (text : ByteArray) (more : Int) (w : World) (hG : G w) (h0 : 0 ≤ more) (h1 : more < 65536) :
    Calls Tryd.prog 4 #[.string text, .int .u16 more] w fun e w' => e = .returned (.bool true) ∧ Below w.heap.size w w' := by
  have h5 := hG.low
  by_cases ht : text.size ≤ 2000000
  · have hex := any_put text (1000 + text.size + more) ht (by omega) (by omega)
    have HEX := Lib.hid hex
    clear hex
    go_enter Tryd.func4, Tryd.ntmps4
    go_wp2_with fail
    refine (sane_any _ hG).mono ?_
    rintro e w1 ⟨rfl, hb⟩
    have HB_w1 := Lib.hid hb
    have HG_w1 := Lib.hid (hG.below hb h5)
    clear hb
    go_wp2_with fail
    obtain ⟨room, hroom⟩ : ∃ room : Int, 1000 + (text.size : Int) + more = room := ⟨_, rfl⟩
    rw [hroom] at HEX
    have hr : 1000 ≤ room ∧ room ≤ 6000000 := by omega
    rw [hroom]
    clear hroom
    refine (formatted_any room _ HG_w1.out).mono ?_
    rintro e wa ⟨Aa, ca, ⟨ha, rfl⟩, hb⟩
    have hex := HEX.out
    rw [formattedR_ok hr] at ha hex ⊢
    have HEX2 := Lib.hid hex
    have HA_wa := Lib.hid ha
    have HB_wa := Lib.hid (HB_w1.out.trans (hb.mono HB_w1.out.size))
    clear ha hb hex
    simp only [rib]
    go_wp2_with fail
    obtain ⟨Xa, hX⟩ : ∃ Xa, wa.alloc (.cells #[.int .i64 room, .string (mkB (bytesL 0 [])), .slice Aa 0 ca] 27) = Xa := ⟨_, rfl⟩
    have hbx : Below wa.heap.size wa Xa := by rw [← hX]; exact (Below.refl _ _).alloc (Nat.le_refl _) _
    have HB_Xa := Lib.hid (HB_wa.out.trans (hbx.mono HB_wa.out.size))
    have HA_Xa := Lib.hid ((HA_wa.out.below hbx).mono (B' := Xa.heap.size) hbx.size)
    have HG_Xa := Lib.hid (hG.below HB_Xa.out h5)
    clear hbx
    rw [hX]
    clear hX
    refine (putB_any (rib room (bytesL 0 []) []) _ text _ HA_Xa.out HG_Xa.out).mono ?_
    rintro e wc ⟨Ac, cc, ⟨ha, rfl⟩, hb⟩
    rw [HEX2.out.1] at ha ⊢
    have HA_wc := Lib.hid ha
    have HB_wc := Lib.hid (HB_Xa.out.trans (hb.mono HB_Xa.out.size))
    clear ha hb
    simp only [rib]
    go_wp2_with fail
    obtain ⟨Xc, hX⟩ : ∃ Xc, wc.alloc (.cells #[.int .i64 room, .string (mkB (bytesL 1 (bl text))), .slice Ac 0 cc] 27) = Xc := ⟨_, rfl⟩
    have hbx : Below wc.heap.size wc Xc := by rw [← hX]; exact (Below.refl _ _).alloc (Nat.le_refl _) _
    have HB_Xc := Lib.hid (HB_wc.out.trans (hbx.mono HB_wc.out.size))
    have HA_Xc := Lib.hid ((HA_wc.out.below hbx).mono (B' := Xc.heap.size) hbx.size)
    have HG_Xc := Lib.hid (hG.below HB_Xc.out h5)
    clear hbx
    rw [hX]
    clear hX
    refine (get_any (rib room (bytesL 1 (bl text)) []) _ _ HA_Xc.out HG_Xc.out).mono ?_
    rintro e wd ⟨hb, he⟩
    rw [HEX2.out.2.2] at he
    subst he
    have HB_wd := Lib.hid (HB_Xc.out.trans (hb.mono HB_Xc.out.size))
    clear hb
    go_wp2_with fail
    refine bodyPost_ret (v := .bool true) (by simp [results, Tryd.results4, go_sem]) rfl ?_
    exact ⟨rfl, HB_wd.out⟩
  · go_enter Tryd.func4, Tryd.ntmps4
    go_wp2_with fail
    refine (sane_any _ hG).mono ?_
    rintro e w1 ⟨rfl, hb⟩
    have HB_w1 := Lib.hid hb
    clear hb
    go_wp2_with fail
    go_ret
    exact ⟨rfl, HB_w1.out⟩
end Go.Proofs.YtinkdjeanjhkbaaDoor
