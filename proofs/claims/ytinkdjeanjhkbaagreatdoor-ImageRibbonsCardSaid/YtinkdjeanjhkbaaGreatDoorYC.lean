/-
  The walks of the reference's New, Check and added.
-/
import Derived.Test.YtinkdjeanjhkbaaGreatDoorYB
import Derived.Lib.AppendStr
namespace Go.Proofs.YtinkdjeanjhkbaaGreatDoor
open Go.RowKit
attribute [local go_sem] size_mkB

theorem newR_yes {room : Int} (h1 : 1000 ≤ room) (h2 : room ≤ 6000000) : newR room = some ⟨room, ⟨#[]⟩, []⟩ := by
  unfold newR
  rw [if_pos]
  show checkR room ⟨#[]⟩ [] = 0
  have e : ((⟨#[]⟩ : ByteArray).size : Int) = 0 := rfl
  unfold checkR
  rw [if_neg (by rw [e]; omega)]
  rfl
theorem newR_no {room : Int} (h : room < 1000 ∨ 6000000 < room) : newR room = none := by
  unfold newR
  rw [if_neg]
  show ¬ checkR room ⟨#[]⟩ [] = 0
  unfold checkR
  rw [if_pos (by omega)]
  decide

set_option maxHeartbeats 400000 in
set_option maxRecDepth 100000 in
theorem rnew_any (room : Int) (w : World) :
    Calls Tryz.prog 12 #[.int .i64 room] w (RibOut 260 (newR room) w) := by
  by_cases h1 : room < 1000
  · have HS := Lib.hid (newR_no (Or.inl h1))
    go_enter Tryz.func12, Tryz.ntmps12
    go_wp2
    refine bodyPost_ret (v := .tuple #[.agg #[.int .i64 0, .string ⟨#[]⟩, .slice none 0 0], .int .i64 260]) (by simp [results, Tryz.results12, go_sem]) rfl ?_
    exact ⟨none, 0, by rw [HS.out], by repeat (first | exact Below.refl _ _ | refine Below.setCell ?_ (by simp) _ | refine Below.alloc ?_ (by simp) _)⟩
  · by_cases h2 : 6000000 < room
    · have HS := Lib.hid (newR_no (Or.inr h2))
      go_enter Tryz.func12, Tryz.ntmps12
      go_wp2
      refine bodyPost_ret (v := .tuple #[.agg #[.int .i64 0, .string ⟨#[]⟩, .slice none 0 0], .int .i64 260]) (by simp [results, Tryz.results12, go_sem]) rfl ?_
      exact ⟨none, 0, by rw [HS.out], by repeat (first | exact Below.refl _ _ | refine Below.setCell ?_ (by simp) _ | refine Below.alloc ?_ (by simp) _)⟩
    · have HS := Lib.hid (newR_yes (room := room) (by omega) (by omega))
      go_enter Tryz.func12, Tryz.ntmps12
      go_wp2
      refine bodyPost_ret (v := .tuple #[.agg #[.int .i64 room, .string ⟨#[]⟩, .slice none 0 0], .int .i64 0]) (by simp [results, Tryz.results12, go_sem]) rfl ?_
      exact ⟨none, 0, by rw [HS.out]; exact ⟨ActsIn.nil _ _, rfl⟩, by repeat (first | exact Below.refl _ _ | refine Below.setCell ?_ (by simp) _ | refine Below.alloc ?_ (by simp) _)⟩

set_option maxHeartbeats 400000 in
set_option maxRecDepth 100000 in
theorem rcheck_any (room : Int) (fast : ByteArray) (v : Value) (l : List RAct) (w : World) (hl : ActsIn w.heap.size w v l) :
    Calls Tryz.prog 15 #[.agg #[.int .i64 room, .string fast, v]] w fun e w' => e = .returned (.int .i64 (checkR room fast l)) ∧ Below w.heap.size w w' := by
  have hb0 : Below w.heap.size w (w.alloc (Obj.cells #[Value.int IntKind.i64 room, Value.string fast, v] 24)) := (Below.refl _ _).alloc (Nat.le_refl _) _
  have HL := Lib.hid ((hl.below hb0).mono (B' := (w.alloc (Obj.cells #[Value.int IntKind.i64 room, Value.string fast, v] 24)).heap.size) (by simp))
  obtain ⟨A, cap, rfl, -, -, -⟩ := hl
  rcases check_01 room fast l with h0 | h0
  · have H0 := Lib.hid h0
    have hd : decide (checkR room fast l = 0) = true := by rw [h0]; rfl
    have HD := Lib.hid hd
    clear h0 hd
    go_enter Tryz.func15, Tryz.ntmps15
    go_wp2_with fail
    refine (right_any room fast _ l _ HL.out).mono ?_
    rintro e w1 ⟨rfl, hb1⟩
    rw [HD.out]
    have HB1 := Lib.hid (hb0.trans (hb1.mono (by simp)))
    clear hb1
    go_wp2_with fail
    go_ret
    exact ⟨by rw [H0.out]; rfl, HB1.out⟩
  · have H0 := Lib.hid h0
    have hd : decide (checkR room fast l = 0) = false := by rw [h0]; rfl
    have HD := Lib.hid hd
    clear h0 hd
    go_enter Tryz.func15, Tryz.ntmps15
    go_wp2_with fail
    refine (right_any room fast _ l _ HL.out).mono ?_
    rintro e w1 ⟨rfl, hb1⟩
    rw [HD.out]
    have HB1 := Lib.hid (hb0.trans (hb1.mono (by simp)))
    clear hb1
    go_wp2_with fail
    go_ret
    exact ⟨by rw [H0.out]; rfl, HB1.out⟩

/-- bytes as cells -/
def byteVals (l : List UInt8) : List Value := l.map fun b => .int .u8 b.toNat
theorem byteVals_len (l : List UInt8) : (byteVals l).length = l.length := by simp [byteVals]
theorem byteVals_append (a b : List UInt8) : byteVals (a ++ b) = byteVals a ++ byteVals b := by simp [byteVals]
theorem strCells_vals (s : ByteArray) : Lib.strCells s = byteVals (bl s) := rfl

theorem push_all (l : List UInt8) : ∀ r : ByteArray, (l.map fun b => (b.toNat : Int)).foldl (fun r n => r.push (UInt8.ofNat n.toNat)) r = mkB (bl r ++ l) := by
  induction l with
  | nil => intro r; simp [mk_bl]
  | cons b l ih =>
    intro r
    simp only [List.map_cons, List.foldl_cons]
    rw [ih]
    congr 1
    rw [show UInt8.ofNat ((b.toNat : Int).toNat) = b by simp]
    simp [bl, ByteArray.push]

/-- a row of bytes of the call's own, as a string -/
theorem conv_own {w : World} {base n : Nat} {v : Value} {L : List UInt8} (h : w.ownsRow base 5 1 v n (byteVals L)) : (convert 54 9 v).run Tryz.prog w = .ok (.string (mkB L)) w := by
  have hl : L.length = n := by have := h.1; rw [byteVals_len] at this; omega
  rcases h.2 with ⟨rfl, h0⟩ | ⟨g, cap, cur, rfl, hg, hb, hc, hm, hs, ht⟩
  · obtain rfl : L = [] := List.length_eq_zero_iff.1 (by omega)
    rw [run_convert_bytes_string _ 54 9 5 _ 0 0 Tryz.underlying54 Tryz.underlying5 Tryz.underlying9]
    rfl
  · rw [run_convert_bytes_string _ 54 9 5 _ n cap Tryz.underlying54 Tryz.underlying5 Tryz.underlying9]
    have hc := h.cells (g := g) rfl
    have hl2 := run_loadCells_list (P := Tryz.prog) w ⟨g, 0, none⟩ (byteVals L) hc
    rw [byteVals_len, hl] at hl2
    have e : byteVals L = (L.map fun b => (b.toNat : Int)).map (Value.int .u8) := by simp [byteVals]
    rw [e] at hl2
    rw [run_bytesToString (P := Tryz.prog) _ _ n cap _ hl2, push_all]
    rfl

theorem infoByte : (Tryz.prog.info? 5).map (fun i => (i.zero, i.size, i.bytes)) = some (some (.int .u8 0), 1, 1) := by kernel_rfl

set_option maxHeartbeats 800000 in
set_option maxRecDepth 100000 in
theorem radded_any (room : Int) (fast : ByteArray) (v : Value) (l : List RAct) (w : World) (hl : ActsIn w.heap.size w v l) (hk : (addedL l).length ≤ 100000000000) :
    Calls Tryz.prog 27 #[.agg #[.int .i64 room, .string fast, v]] w fun e w' => e = .returned (.string (mkB (addedL l))) ∧ Below w.heap.size w w' := by
  obtain ⟨i0, hi0, hz0, hz1, hz2⟩ := info_parts infoByte
  obtain ⟨A, cap, rfl, hc, ⟨hcm, hcl⟩, hcells⟩ := hl
  have hf : ∀ k, Hid ((addedL (l.take k)).length ≤ (addedL l).length) := fun k => addedL_le l k
  have HK := Lib.hid hk
  clear hk
  go_enter Tryz.func27, Tryz.ntmps27
  go_wp2_with fail
  obtain ⟨W, hW⟩ : ∃ W, w.alloc (Obj.cells #[Value.int IntKind.i64 room, Value.string fast, Value.slice A l.length cap] 24) = W := ⟨_, rfl⟩
  have hWs : W.heap.size = w.heap.size + 1 := by rw [← hW]; simp
  have hWb : Below w.heap.size w W := by rw [← hW]; exact (Below.refl _ _).alloc (Nat.le_refl _) _
  have hWx : W.heap[w.heap.size]? = some (.cells #[Value.int IntKind.i64 room, Value.string fast, Value.slice A l.length cap] 24 (0, 0)) := by rw [← hW]; exact heap_alloc_new _ _
  rw [hW]
  clear hW
  have HWs := Lib.hid hWs
  have HWx := Lib.hid hWx
  have HWb := Lib.hid hWb
  clear hWs hWx hWb
  go_loopw [3, 4] (fun bv i wr => ∃ (k : Nat), k ≤ l.length ∧ i = .int .i64 k ∧ Hid (wr.ownsRow (w.heap.size + 1) 5 1 bv (addedL (l.take k)).length (byteVals (addedL (l.take k)))) ∧
        Hid (Below (w.heap.size + 1) W wr))
      (fun _ i _ => l.length - (intOf i).toNat)
  case atStart => exact ⟨0, Nat.zero_le _, rfl, World.ownsRow_nil _ _ _ _, Below.refl _ _⟩
  case round =>
    obtain ⟨k, hk, rfl, HO, HB⟩ := hrel
    have bx := (HB.out.block _ (Nat.lt_succ_self _)).trans HWx.out
    have d0 : wr.cell? ⟨w.heap.size, 0, none⟩ = some (.int .i64 room) := Lib.cell_of_heap bx 0
    have d1 : wr.cell? ⟨w.heap.size, 1, none⟩ = some (.string fast) := Lib.cell_of_heap bx 1
    have d2 : wr.cell? ⟨w.heap.size, 2, none⟩ = some (.slice A l.length cap) := Lib.cell_of_heap bx 2
    have hz : w.heap.size < wr.heap.size := (Array.getElem?_eq_some_iff.1 bx).1
    clear bx
    by_cases hlt : k < l.length
    · obtain ⟨b, o, rfl, hb, hall⟩ := hcells (by omega)
      obtain ⟨c0', c1', c2', c3'⟩ := hall k hlt
      have c1 := (HB.out.cell (p := ⟨b, o + k * 4 + 1, none⟩) (by show b < _; omega)).trans ((HWb.out.cell (p := ⟨b, o + k * 4 + 1, none⟩) hb).trans c1')
      clear hall hcells c0' c1' c2' c3'
      have hst := Lib.hid (addedL_take l k hlt)
      have hle := hf (k + 1)
      generalize ha : l.getD k zAct = a at c1 hst
      clear ha hf
      have hsum : (addedL (l.take k)).length + a.text.size ≤ 100000000000 := by
        have h1 := hle.out; rw [hst.out, List.length_append, ← size_bl] at h1; have := HK.out; omega
      go_wp2_with (at_builtin; refine Lib.wpList_append_own_string _ rfl (.tmp 12) (.tmp 18) 54 9 rfl (w.heap.size + 1) 5 i0 Tryz.underlying54 Tryz.underlying9 hi0 hz0 hz1 hz2 _ _ _ rfl HO.out _ rfl (by unfold maxLen; omega) (by omega) (by omega) ?_; intro v1 w1 hown1 hgr1 _; have HO1 := Lib.hid hown1; have HB1 := Lib.hid (HB.out.grown hgr1 (by omega) (fun g hg => (HO.out.lt g hg).1)); clear hown1 hgr1 d0 d1 d2)
      go_roundw
      case rel => exact ⟨k + 1, by omega, by go_num, by simp only [Hid]; rw [hst.out, List.length_append, byteVals_append, ← size_bl]; exact HO1.out, HB1.out⟩
      case measure => simp [intOf]; omega
    · have hcv := conv_own HO.out
      have hk' : l.take k = l := List.take_of_length_le (by omega)
      have HK' := Lib.hid hk'
      clear hk'
      go_wp2_with fail
      go_ret
      refine ⟨by rw [HK'.out]; rfl, HWb.out.trans (HB.out.mono (by omega))⟩
end Go.Proofs.YtinkdjeanjhkbaaGreatDoor
