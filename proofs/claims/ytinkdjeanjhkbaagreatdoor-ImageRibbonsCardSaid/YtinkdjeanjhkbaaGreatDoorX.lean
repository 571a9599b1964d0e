/-
  The walks of Words's closure at the second text of the examples, and of guarded's closure.
-/
import Derived.Test.YtinkdjeanjhkbaaGreatDoorW
namespace Go.Proofs.YtinkdjeanjhkbaaGreatDoor
open Go.RowKit
attribute [local go_sem] size_mkB

theorem isNum012 (w : World) : Calls Tryz.prog 36 #[.string ⟨#[48, 49, 50]⟩] w fun e w' => e = .returned (.bool false) ∧ w' = w := by
  refine (isNumber_some ⟨#[48, 49, 50]⟩ ⟨#[48, 49, 50]⟩ w rfl (by decide) (by decide) (fun j h => ?_)).mono ?_
  · have h' : j < 3 := h
    have : j = 0 ∨ j = 1 ∨ j = 2 := by omega
    rcases this with rfl | rfl | rfl
    · show 48 ≤ UInt8.toNat 48 ∧ UInt8.toNat 48 ≤ 57; decide
    · show 48 ≤ UInt8.toNat 49 ∧ UInt8.toNat 49 ≤ 57; decide
    · show 48 ≤ UInt8.toNat 50 ∧ UInt8.toNat 50 ≤ 57; decide
  · rintro e w' ⟨rfl, rfl⟩
    exact ⟨rfl, rfl⟩

def wrongP (b : Bool) : PanicEntry := { v := .iface 87 (.agg #[]), recovered := b }

set_option maxHeartbeats 3200000 in
set_option maxRecDepth 100000 in
theorem words2_any (w : World) (tc oc : Nat) (ht : tc < w.heap.size) (ho : oc < w.heap.size) (htx : w.heap[tc]? = some (.cells #[.string T2] 9 (0, 0))) (hout : w.heap[oc]? = some (.cells #[.slice none 0 0] 37 (0, 0))) :
    Calls Tryz.prog 32 #[.pointer (some ⟨tc, 0, none⟩), .pointer (some ⟨oc, 0, none⟩)] w fun e w' => e = .panicked [wrongP false] ∧ SoleB w.heap.size oc w w' := by
  obtain ⟨T, hT⟩ : ∃ T, T = T2 := ⟨_, rfl⟩
  rw [← hT] at htx
  have hTs : T.size = 4 := by rw [hT]; rfl
  have HT := Lib.hid hT
  have HTX := Lib.hid htx
  have tx0 : w.cell? ⟨tc, 0, none⟩ = some (.string T) := Lib.cell_of_heap htx 0
  have HOUT := Lib.hid hout
  clear hT htx hout
  go_enter Tryz.func32, Tryz.ntmps32
  go_wp2
  go_loopw [] (fun wr => Hid (WInv w tc oc T 0 [] wr)) (fun wr => curLeft w.heap.size wr)
  case atStart =>
    exact ⟨heap_alloc_new _ _, (Below.heap_alloc _ _ _ ht).trans HTX.out, ⟨none, 0, (Below.heap_alloc _ _ _ ho).trans HOUT.out, World.ownsRow_nil _ _ _ _⟩, SoleB.of_below ((Below.refl _ _).alloc (Nat.le_refl _) _) (Nat.le_refl _), by simp⟩
  case round =>
    have HI : Hid (WInv w tc oc T 0 [] wr) := hrel
    clear hrel
    have c0 : wr.cell? ⟨w.heap.size, 0, none⟩ = some (.string T) := Lib.cell_of_heap HI.out.cur 0
    have c1 : wr.cell? ⟨w.heap.size, 1, none⟩ = some (.int .i64 0) := Lib.cell_of_heap HI.out.cur 1
    have t0 : wr.cell? ⟨tc, 0, none⟩ = some (.string T) := Lib.cell_of_heap HI.out.tx 0
    obtain ⟨X, hX⟩ : ∃ X, X = T.extract 0 T.size := ⟨_, rfl⟩
    have hXs : X = ⟨#[48, 49, 50, 32]⟩ := by rw [hX, HT.out]; rfl
    have s6 : ∀ W : World, (Instr.slice 9 (.string T) (some (.int .i64 0)) none none).run Tryz.prog W = .ok (.string X) W := fun W => by rw [hX]; exact slice_from T 0 (by omega) W
    have hia : ∀ W : World, Calls Tryz.prog 33 #[.string X, .string ⟨#[58, 32]⟩] W fun e w' => e = .returned (.int .i64 3) ∧ Below W.heap.size W w' := fun W => by
      have := indexAny_some X W (by rw [hXs]; decide) (ascii_of (by rw [hXs]; rfl))
      rw [show Lib.indexAny (bl X) [58, 32] = 3 by rw [hXs]; rfl] at this
      exact this
    have HIA := Lib.hid hia
    have hix : ∀ W : World, (Instr.index 9 (.string T) (.int .i64 3)).run Tryz.prog W = .ok (.int .u8 32) W := by
      intro W
      rw [run_index_string W 9 T .i64 _ Tryz.underlying9, dif_pos (by omega)]
      simp only [HT.out]; rfl
    have hun : Lib.indexByte ((bl T).drop 0) 32 = ((3 : Nat) : Int) := by rw [HT.out]; rfl
    have HUN := Lib.hid hun
    have hY : T.extract 0 (0 + 3) = ⟨#[48, 49, 50]⟩ := by rw [HT.out]; rfl
    have HY := Lib.hid hY
    have h9 : ((T.size : Nat) : Int) = 4 := by omega
    clear hX hXs hia hun hY
    go_wp2_with fail
    go_quiet (fail)
    go_wp2_with fail
    have hzr : w.heap.size < wr.heap.size := HI.out.size
    go_region_held3 (fun w' => w'.cell? ⟨w.heap.size, 1, none⟩ = some (.int .i64 0) ∧ w'.cell? ⟨tc, 0, none⟩ = some (.string T))
      (first | go_keep | exact ⟨by simp [c1], by simp [t0]⟩ | (refine ⟨?_, ?_⟩ <;> (rw [(bcell hb1).1 _ _ (by simp; omega)]; simp [c1, t0])))
      (first | (go_at_call 33; refine (HIA.out _).mono ?_; rintro e w1 ⟨rfl, hb1⟩))
    have HI1 := Lib.hid (HI.out.below ht ho (w1 := w1) (((below_drewN' (k := nq) (Below.refl _ wr)).drew).trans hb1))
    clear hb1 c0 c1 t0
    have c0 : w1.cell? ⟨w.heap.size, 0, none⟩ = some (.string T) := Lib.cell_of_heap HI1.out.cur 0
    have c1 : w1.cell? ⟨w.heap.size, 1, none⟩ = some (.int .i64 0) := Lib.cell_of_heap HI1.out.cur 1
    have t0 : w1.cell? ⟨tc, 0, none⟩ = some (.string T) := Lib.cell_of_heap HI1.out.tx 0
    go_wp2_with (go_at_call 34; refine (must_true _ _).mono ?_; rintro e w' ⟨rfl, hw'⟩; obtain rfl := hw'.symm)
    go_quiet (fail)
    have HI2 := Lib.hid (HI1.out.below ht ho (w1 := w1.drewN nq) (below_drewN' (Below.refl _ w1)))
    generalize hW2 : w1.drewN nq = w2 at HI2 ⊢
    clear hW2 c0 c1 t0
    go_wp2_with fail
    refine (until_any w.heap.size T 0 3 32 _ HI2.out.cur (by omega) (by omega) HUN.out).mono ?_
    rintro e w3 ⟨rfl, hc3, hs3⟩
    rw [HY.out]
    have HI3 := Lib.hid (HI2.out.sole ht ho hs3 (k' := 4) hc3)
    clear hc3 hs3
    go_wp2_with (go_at_call 36; refine (isNum012 _).mono ?_; rintro e w4 ⟨rfl, hw'⟩; obtain rfl := hw'.symm)
    refine (must_false _ _).mono ?_
    rintro e w4 ⟨rfl, hw4⟩
    obtain rfl := hw4.symm
    exact (⟨rfl, rfl, HI3.out.keeps⟩ : _ = _ ∧ _ = _ ∧ _)

set_option maxRecDepth 100000 in
theorem catch_panicking (b : Nat) (x : Bool) (older : List PanicEntry) (w : World) (hc : w.cell? ⟨b, 0, none⟩ = some (.bool x)) (hz : ∀ j, w.frozen? ⟨b, j, none⟩ = false) (hp : b < w.heap.size) :
    CallsD Tryz.prog 50 #[.pointer (some ⟨b, 0, none⟩)] (.panicking (wrongP false :: older)) w fun e u' w' =>
      e = .returned (.tuple #[]) ∧ u' = .panicking (wrongP true :: older) ∧ w' = (w.setCell ⟨b, 0, none⟩ (.bool false)).alloc (.cells #[] 87) := by
  refine callsD_of_wpS Tryz.func50 rfl fun c₀ cs hu => ?_
  have hta : ∀ w : World, (Instr.typeAssert (.iface 87 (.agg #[])) 20 87 true).run Tryz.prog w = .ok (.tuple #[.agg #[], .bool true]) w := fun w => by kernel_rfl
  apply wpS_seq
  apply wpS_region
  simp [wpOpsS, go_sem, recoverD, hu, Tryz.ntmps50, Exit.thenS, wrongP]
  simp only [List.size_toArray, List.length_cons, List.length_nil, Nat.reduceAdd, Nat.reduceSub, Array.replicate_succ, Array.replicate_zero, List.push_toArray, List.append_toArray, List.nil_append, List.cons_append, List.setIfInBounds_toArray, List.set_cons_succ, List.set_cons_zero]
  refine wpS_of_wp ?_
  go_wp2
  exact ⟨rfl, _, rfl, _, results_none rfl _ _ _, rfl, rfl, rfl⟩

set_option maxRecDepth 100000 in
theorem catch_idle (p : Value) (w : World) :
    CallsD Tryz.prog 50 #[p] .returning w fun e u' w' => e = .returned (.tuple #[]) ∧ u' = .returning ∧ w' = w := by
  refine callsD_of_wpS Tryz.func50 rfl fun c₀ cs hu => ?_
  apply wpS_seq
  apply wpS_region
  simp [wpOpsS, go_sem, recoverD, hu, Tryz.ntmps50, Exit.thenS]
  simp only [List.size_toArray, List.length_cons, List.length_nil, Nat.reduceAdd, Nat.reduceSub, Array.replicate_succ, Array.replicate_zero, List.push_toArray, List.append_toArray, List.nil_append, List.cons_append, List.setIfInBounds_toArray, List.set_cons_succ, List.set_cons_zero]
  refine wpS_of_wp ?_
  go_wp2
  cases c₀
  simp_all [bodyPostS, results, Tryz.results50]

theorem SoleB.mono {B B' g : Nat} {a b : World} (h : SoleB B g a b) (hB : B' ≤ B) : SoleB B' g a b := ⟨h.os, h.tape, h.output, h.size, fun k hk hg => h.block k (by omega) hg⟩
theorem SoleB.past {B g : Nat} {a b : World} (h : SoleB B g a b) {c : Nat} (hc : B ≤ c) (j : Nat) (v : Value) : SoleB B g a (b.setCell ⟨c, j, none⟩ v) :=
  ⟨h.os, h.tape, h.output, by simpa [World.setCell] using h.size, fun k hk hg => by rw [Below.heap_setCell _ _ _ _ (by show k ≠ c; omega)]; exact h.block k hk hg⟩
theorem SoleB.alloc {B g : Nat} {a b : World} (h : SoleB B g a b) (hB : B ≤ b.heap.size) (o : Obj) : SoleB B g a (b.alloc o) := h.trans (SoleB.of_below ((Below.refl _ _).alloc (Nat.le_refl _) o) hB)
theorem ownsRow_le' {w : World} {base base' size n : Nat} {e : TypeId} {v : Value} {xs : List Value} (h : w.ownsRow base e size v n xs) (hb : base' ≤ base) : w.ownsRow base' e size v n xs :=
  ⟨h.1, h.2.elim Or.inl (fun ⟨g, cap, cur, hv, hg, r⟩ => Or.inr ⟨g, cap, cur, hv, Nat.le_trans hb hg, r⟩)⟩

set_option maxRecDepth 100000 in
theorem guarded1_any (w : World) (tc oc : Nat) (ht : tc < w.heap.size) (ho : oc < w.heap.size) (hto : tc ≠ oc) (hG : G w) (htx : w.heap[tc]? = some (.cells #[.string T1] 9 (0, 0))) (hout : w.heap[oc]? = some (.cells #[.slice none 0 0] 37 (0, 0))) (hoc : 6 ≤ oc) :
    Calls Tryz.prog 31 #[.func (.func 32) #[] #[.pointer (some ⟨tc, 0, none⟩), .pointer (some ⟨oc, 0, none⟩)]] w fun e w' => e = .returned (.bool true) ∧ SoleB w.heap.size oc w w' ∧
      ∃ A c, w'.heap[oc]? = some (.cells #[.slice A 2 c] 37 (0, 0)) ∧ w'.ownsRow (w.heap.size + 1) 9 1 (.slice A 2 c) 2 [.string ⟨#[97, 32, 98]⟩, .string ⟨#[49, 50]⟩] := by
  have hmf : ∀ (fn : Fn) (first cap : Array Value) (w : World), (Instr.makeFunc fn first cap).run Tryz.prog w = .ok (.func fn first cap) w := fun _ _ _ _ => rfl
  have htx0 := (Below.heap_alloc w (.cells #[.bool false] 4) tc ht).trans htx
  have hout0 := (Below.heap_alloc w (.cells #[.bool false] 4) oc ho).trans hout
  have HW := Lib.hid (words1_any (w.alloc (.cells #[.bool false] 4)) tc oc (by simp; omega) (by simp; omega) hto (hG.alloc _) htx0 hout0 hoc)
  clear htx0 hout0 htx hout
  go_enter_defers Tryz.func31, Tryz.ntmps31
  go_wp2_with fail
  refine HW.out.mono ?_
  rintro e w1 ⟨rfl, hs1, A1, c1, ho1, hr1⟩
  have b1 : w1.heap[w.heap.size]? = some (.cells #[.bool false] 4 (0, 0)) := (hs1.block _ (by simp) (by omega)).trans (heap_alloc_new _ _)
  have f1 : w1.cell? ⟨w.heap.size, 0, none⟩ = some (.bool false) := Lib.cell_of_heap b1 0
  have ff := Lib.frozen_of_heap b1
  have HS1 := Lib.hid hs1
  have HO1 := Lib.hid ho1
  have HR1 := Lib.hid hr1
  have B1 := Lib.hid b1
  clear hs1 ho1 hr1 b1
  go_wp2
  refine leaves_cons (f := 50) (args := #[.pointer (some ⟨w.heap.size, 0, none⟩)]) (by simp) (by simp [go_sem]) ?_
  refine (catch_idle _ _).mono ?_
  rintro e u' w'' ⟨rfl, rfl, rfl⟩
  have q : (w1.setCell ⟨w.heap.size, 0, none⟩ (.bool true)).cell? ⟨w.heap.size, 0, none⟩ = some (.bool true) := Lib.cell_of_heap (heap_setCell_at B1.out 0 (.bool true)) 0
  simp [Leaves, settle, results, Tryz.results31, go_sem, q]
  have hs0 := ((SoleB.of_below ((Below.refl w.heap.size w).alloc (Nat.le_refl _) (.cells #[.bool false] 4)) (Nat.le_refl _) : SoleB w.heap.size oc w _).trans (HS1.out.mono (by simp))).past (c := w.heap.size) (Nat.le_refl _) 0 (.bool true)
  refine ⟨hs0, A1, c1, ?_, ?_⟩
  · rw [Below.heap_setCell _ _ _ _ (by show oc ≠ w.heap.size; omega)]; exact HO1.out
  · exact ownsRow_setCell_below (ownsRow_le' HR1.out (by simp)) (by show w.heap.size < _; omega) _

set_option maxRecDepth 100000 in
theorem guarded2_any (w : World) (tc oc : Nat) (ht : tc < w.heap.size) (ho : oc < w.heap.size) (htx : w.heap[tc]? = some (.cells #[.string T2] 9 (0, 0))) (hout : w.heap[oc]? = some (.cells #[.slice none 0 0] 37 (0, 0))) :
    Calls Tryz.prog 31 #[.func (.func 32) #[] #[.pointer (some ⟨tc, 0, none⟩), .pointer (some ⟨oc, 0, none⟩)]] w fun e w' => e = .returned (.bool false) ∧ SoleB w.heap.size oc w w' := by
  have hmf : ∀ (fn : Fn) (first cap : Array Value) (w : World), (Instr.makeFunc fn first cap).run Tryz.prog w = .ok (.func fn first cap) w := fun _ _ _ _ => rfl
  have htx0 := (Below.heap_alloc w (.cells #[.bool false] 4) tc ht).trans htx
  have hout0 := (Below.heap_alloc w (.cells #[.bool false] 4) oc ho).trans hout
  have HW := Lib.hid (words2_any (w.alloc (.cells #[.bool false] 4)) tc oc (by simp; omega) (by simp; omega) htx0 hout0)
  clear htx0 hout0 htx hout
  go_enter_defers Tryz.func31, Tryz.ntmps31
  go_wp2_with fail
  refine HW.out.mono ?_
  rintro e w1 ⟨rfl, hs1⟩
  have b1 : w1.heap[w.heap.size]? = some (.cells #[.bool false] 4 (0, 0)) := (hs1.block _ (by simp) (by omega)).trans (heap_alloc_new _ _)
  have f1 : w1.cell? ⟨w.heap.size, 0, none⟩ = some (.bool false) := Lib.cell_of_heap b1 0
  have ff := Lib.frozen_of_heap b1
  have hz1 : w.heap.size < w1.heap.size := by have := hs1.size; simp at this; omega
  have HS1 := Lib.hid hs1
  have B1 := Lib.hid b1
  clear hs1 b1
  show bodyPostD _ _ _ (Exit.panic [wrongP false]) _ _
  refine leaves_cons (f := 50) (args := #[.pointer (some ⟨w.heap.size, 0, none⟩)]) (by simp) (by simp [go_sem]) ?_
  refine (catch_panicking w.heap.size false [] w1 f1 ff hz1).mono ?_
  rintro e u' w'' ⟨rfl, rfl, rfl⟩
  have q : ((w1.setCell ⟨w.heap.size, 0, none⟩ (.bool false)).alloc (.cells #[] 87)).cell? ⟨w.heap.size, 0, none⟩ = some (.bool false) :=
    (World.cell?_of_block (Below.heap_alloc _ _ _ (by simpa [World.setCell] using hz1))).trans (Lib.cell_of_heap (heap_setCell_at B1.out 0 (.bool false)) 0)
  simp [Leaves, settle, results, Tryz.results31, go_sem, q, wrongP]
  have hs0 := (((SoleB.of_below ((Below.refl w.heap.size w).alloc (Nat.le_refl _) (.cells #[.bool false] 4)) (Nat.le_refl _) : SoleB w.heap.size oc w _).trans (HS1.out.mono (by simp))).past (c := w.heap.size) (Nat.le_refl _) 0 (.bool false)).alloc (by simp [World.setCell]; omega) (.cells #[] 87)
  exact hs0
end Go.Proofs.YtinkdjeanjhkbaaGreatDoor
