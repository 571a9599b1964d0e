/-
  The walks of image's small functions: each function's contract, for every input.
-/
import Derived.Test.YtinkdjeanjhkbaaGreatDoorRows
import Derived.Test.YtinkdjeanjhkbaaGreatDoorA
import Derived.Deep.RegionHeld3
import Derived.Deep.QuietTactic
import Derived.BigQuiet
import Derived.Test.YtinkdjeanjhkbaaGreatDoorShelf
namespace Go.Proofs.YtinkdjeanjhkbaaGreatDoor
open Go.RowKit

/-! ### words on memory -/

theorem bcell {B : Nat} {W w1 : World} (hb : Below B W w1) : (∀ b o, b < B → w1.cell? ⟨b, o, none⟩ = W.cell? ⟨b, o, none⟩) ∧ (∀ b o, b < B → w1.frozen? ⟨b, o, none⟩ = W.frozen? ⟨b, o, none⟩) :=
  ⟨fun b o h => hb.cell (p := ⟨b, o, none⟩) h, fun b o h => hb.frozen (p := ⟨b, o, none⟩) h⟩

/-- the four cells of an action at an address -/
def ActAt (w : World) (b o : Nat) (a : RAct) : Prop :=
  w.cell? ⟨b, o, none⟩ = some (.int .i64 a.kind) ∧ w.cell? ⟨b, o + 1, none⟩ = some (.string a.text) ∧
  w.cell? ⟨b, o + 2, none⟩ = some (.int .i64 a.frm) ∧ w.cell? ⟨b, o + 3, none⟩ = some (.int .i64 a.to)

theorem ActAt.below {w w' : World} {B b o : Nat} {a : RAct} (h : ActAt w b o a) (hb : b < B) (hB : Below B w w') : ActAt w' b o a :=
  ⟨(hB.cell (p := ⟨b, o, none⟩) hb).trans h.1, (hB.cell (p := ⟨b, o + 1, none⟩) hb).trans h.2.1, (hB.cell (p := ⟨b, o + 2, none⟩) hb).trans h.2.2.1, (hB.cell (p := ⟨b, o + 3, none⟩) hb).trans h.2.2.2⟩

/-- a slice value that reads as a list of actions; what it reads lies below block B -/
def ActsIn (B : Nat) (w : World) (v : Value) (l : List RAct) : Prop :=
  ∃ A cap, v = .slice A l.length cap ∧ l.length ≤ cap ∧ ((A = none → cap = 0) ∧ l.length ≤ 9223372036854775807) ∧
    (0 < l.length → ∃ b o, A = some ⟨b, o, none⟩ ∧ b < B ∧ ∀ i, i < l.length → ActAt w b (o + i * 4) (l.getD i zAct))

theorem ActsIn.below {B : Nat} {w w' : World} {v : Value} {l : List RAct} (h : ActsIn B w v l) (hB : Below B w w') : ActsIn B w' v l := by
  obtain ⟨A, cap, h1, h2, h3, h4⟩ := h
  refine ⟨A, cap, h1, h2, h3, fun h0 => ?_⟩
  obtain ⟨b, o, e, hb, hc⟩ := h4 h0
  exact ⟨b, o, e, hb, fun i hi => (hc i hi).below hb hB⟩
theorem ActsIn.mono {B B' : Nat} {w : World} {v : Value} {l : List RAct} (h : ActsIn B w v l) (hB : B ≤ B') : ActsIn B' w v l := by
  obtain ⟨A, cap, h1, h2, h3, h4⟩ := h
  refine ⟨A, cap, h1, h2, h3, fun h0 => ?_⟩
  obtain ⟨b, o, e, hb, hc⟩ := h4 h0
  exact ⟨b, o, e, by omega, hc⟩
theorem ActsIn.nil (B : Nat) (w : World) : ActsIn B w (.slice none 0 0) [] := ⟨none, 0, rfl, Nat.le_refl _, ⟨fun _ => rfl, by decide⟩, fun h => by cases h⟩

/-- behind a first block of one's own -/
theorem below_alloc_old {w w' : World} {o : Obj} {n : Nat} (h : Below (w.heap.size + n) (w.alloc o) w') : Below w.heap.size w w' :=
  ((Below.refl _ _).alloc (Nat.le_refl _) o).trans (h.mono (by omega))

theorem below_at {B : Nat} {w0 w w1 : World} {o : Obj} (h : Below B w0 w) (hB : B ≤ w.heap.size) (hb : Below (w.alloc o).heap.size (w.alloc o) w1) : Below B w0 w1 :=
  (h.alloc hB o).trans (hb.mono (by simp; omega))

theorem below_grow {B : Nat} {w0 w : World} (h : Below B w0 w) (hB : B ≤ w.heap.size) (k : Nat) (os : Array Obj) : Below B w0 («Sort».grow (w.drewN k) os) :=
  h.trans ⟨rfl, rfl, rfl, by simp [«Sort».grow], fun i hi => by simp only [«Sort».grow]; exact Array.getElem?_append_left (by simpa using by omega)⟩

theorem below_one {w w1 : World} {o : Obj} (h : Below (w.alloc o).heap.size (w.alloc o) w1) : Below w.heap.size w w1 :=
  ((Below.refl _ _).alloc (Nat.le_refl _) o).trans (h.mono (by simp))
theorem one_new {w w1 : World} {c : Array Value} {t : TypeId} (h : Below (w.alloc (.cells c t)).heap.size (w.alloc (.cells c t)) w1) : w1.heap[w.heap.size]? = some (.cells c t (0, 0)) := by
  rw [h.block _ (by simp)]; exact heap_alloc_new w _
theorem two_new {w w1 : World} {c d : Array Value} {t u : TypeId} (h : Below ((w.alloc (.cells c t)).alloc (.cells d u)).heap.size ((w.alloc (.cells c t)).alloc (.cells d u)) w1) :
    w1.heap[w.heap.size]? = some (.cells c t (0, 0)) ∧ w1.heap[w.heap.size + 1]? = some (.cells d u (0, 0)) ∧ Below w.heap.size w w1 ∧ w.heap.size + 1 < w1.heap.size := by
  refine ⟨?_, ?_, ?_, ?_⟩
  · rw [h.block _ (by simp; omega), Below.heap_alloc _ _ _ (by simp)]; exact heap_alloc_new w _
  · rw [h.block _ (by simp)]
    have := heap_alloc_new (w.alloc (.cells c t)) (.cells d u)
    simpa using this
  · exact (((Below.refl _ _).alloc (Nat.le_refl _) _).alloc (by simp) _).trans (h.mono (by simp; omega))
  · have := h.size; simp at this; omega

/-- what is known of the package-level variables that the library reads -/
structure G (w : World) : Prop where
  low : 5 < w.heap.size
  pow : Lib.TabIs Tryz.prog w "internal/strconv.uint64pow10" .u64 Lib.pow10Tab
  syn : ∃ tp p, w.var? Tryz.prog "strconv.ErrSyntax" = some #[.iface tp p]
  rng : ∃ tp p, w.var? Tryz.prog "strconv.ErrRange" = some #[.iface tp p]

theorem global_pow : Tryz.prog.globalNamed "internal/strconv.uint64pow10" = some 3 := by kernel_rfl
theorem global_syn : Tryz.prog.globalNamed "strconv.ErrSyntax" = some 1 := by kernel_rfl
theorem global_rng : Tryz.prog.globalNamed "strconv.ErrRange" = some 2 := by kernel_rfl

theorem G.below {w w' : World} {B : Nat} (h : G w) (hb : Below B w w') (hB : 5 < B) : G w' := by
  obtain ⟨h1, h2, ⟨t1, p1, h3⟩, t2, p2, h4⟩ := h
  have := hb.size
  exact ⟨by omega, var?_below hb global_pow (by omega) h2, ⟨t1, p1, var?_below hb global_syn (by omega) h3⟩, t2, p2, var?_below hb global_rng (by omega) h4⟩
theorem G.alloc {w : World} (h : G w) (o : Obj) : G (w.alloc o) := h.below ((Below.refl w.heap.size w).alloc (Nat.le_refl _) o) h.low

theorem ret_bool {a b : Bool} (h : a = b) : Ending.returned (.bool a) = .returned (.bool b) := by rw [h]
theorem ret_int {k : IntKind} {a b : Int} (h : a = b) : Ending.returned (.int k a) = .returned (.int k b) := by rw [h]
theorem ret_str {a b : ByteArray} (h : a = b) : Ending.returned (.string a) = .returned (.string b) := by rw [h]

/-! ### the functions -/

set_option maxHeartbeats 400000 in
theorem remainder_any (n m : Int) (w : World) (hm : 0 < m) (hm2 : m ≤ 4611686018427387904) :
    Calls Tryz.prog 28 #[.int .i64 n, .int .i64 m] w fun e w' => e = .returned (.int .i64 (n % m)) ∧ w = w' := by
  have h0 : m ≠ 0 := by omega
  go_enter Tryz.func28, Tryz.ntmps28
  go_wp2
  go_ret
  refine ⟨ret_int ?_, rfl⟩
  have e1 : n.tmod m + m = wrap64 (n.tmod m + m) := by
    have h1 := Int.tmod_lt_of_pos n hm
    have h2 : -m < n.tmod m := Int.lt_tmod_of_pos n hm
    unfold wrap64; omega
  have h2 : -m < n.tmod m := Int.lt_tmod_of_pos n hm
  rw [← e1, Int.tmod_eq_emod_of_nonneg (by omega), Int.add_emod_right]
  rw [Int.tmod_eq_emod]
  split
  · simp
  · rw [show ((m.natAbs : Nat) : Int) = m from by omega]; simp

theorem remainder_nat (n m : Int) (w : World) (hm : 0 < m) (hm2 : m ≤ 4611686018427387904) :
    Calls Tryz.prog 28 #[.int .i64 n, .int .i64 m] w fun e w' => ∃ q : Nat, e = .returned (.int .i64 q) ∧ (q : Int) < m ∧ Hid (q = (n % m).toNat) ∧ w = w' := by
  refine (remainder_any n m w hm hm2).mono ?_
  rintro e w' ⟨rfl, rfl⟩
  have h0 := Int.emod_nonneg n (by omega : m ≠ 0)
  have h1 := Int.emod_lt_of_pos n hm
  exact ⟨(n % m).toNat, by rw [Int.toNat_of_nonneg h0], by omega, rfl, rfl⟩

set_option maxHeartbeats 400000 in
theorem isAct_any (a : RAct) (w : World) :
    Calls Tryz.prog 22 #[.agg #[.int .i64 a.kind, .string a.text, .int .i64 a.frm, .int .i64 a.to]] w fun e w' => e = .returned (.bool (actOk a)) ∧ Below w.heap.size w w' := by
  go_enter Tryz.func22, Tryz.ntmps22
  go_wp2
  all_goals
    go_ret
    refine ⟨ret_bool ?_, (Below.refl _ _).alloc (Nat.le_refl _) _⟩
    simp_all [actOk]
    try omega

set_option maxHeartbeats 800000 in
set_option maxRecDepth 100000 in
theorem check_any (room : Int) (fast : ByteArray) (v : Value) (l : List RAct) (w : World) (hl : ActsIn w.heap.size w v l) :
    Calls Tryz.prog 14 #[.agg #[.int .i64 room, .string fast, v]] w fun e w' => e = .returned (.int .i64 (checkR room fast l)) ∧ Below w.heap.size w w' := by
  obtain ⟨A, cap, rfl, hc, ⟨hcm, hcl⟩, hcells⟩ := hl
  by_cases h1 : room < 1000 ∨ 6000000 < room ∨ room < fast.size
  · go_enter Tryz.func14, Tryz.ntmps14
    go_wp2_with fail
    all_goals
      go_ret
      exact ⟨ret_int (by simp only [checkR]; rw [if_pos h1]), (Below.refl _ _).alloc (Nat.le_refl _) _⟩
  · have hspec : checkR room fast l = checkFrom fast.size 0 (room - fast.size) l := by simp only [checkR]; rw [if_neg h1]
    have HS := Lib.hid hspec
    clear hspec
    have b1 : 1000 ≤ room := by omega
    have b2 : room ≤ 6000000 := by omega
    have b3 : (fast.size : Int) ≤ room := by omega
    clear h1
    go_enter Tryz.func14, Tryz.ntmps14
    go_wp2_with fail
    go_loopw [3, 31] (fun left i wr => ∃ (k : Nat) (q : Int), k ≤ l.length ∧ i = .int .i64 k ∧ left = .int .i64 q ∧ 0 ≤ q ∧ q ≤ 6000000 ∧ (k = 0 → q + fast.size ≤ 6000000) ∧
        Hid (checkFrom fast.size 0 (room - fast.size) l = checkFrom fast.size k q (l.drop k)) ∧ 
        Hid (Below (w.heap.size + 1) (w.alloc (Obj.cells #[Value.int IntKind.i64 room, Value.string fast, Value.slice A l.length cap] 24)) wr))
      (fun _ i _ => l.length - (intOf i).toNat)
    case atStart => exact ⟨0, room - fast.size, Nat.zero_le _, rfl, rfl, by omega, by omega, by omega, by simp [Hid], Below.refl _ _⟩
    case round =>
      obtain ⟨k, q, hk, rfl, rfl, hq0, hq1, hq2, HK, HB⟩ := hrel
      obtain ⟨hcr, hfr⟩ := bcell HB.out
      have hzr : w.heap.size < wr.heap.size := by have := HB.out.size; simp at this; omega
      have HQ := Lib.hid hq2
      clear hq2
      by_cases hlt : k < l.length
      · obtain ⟨b, o, rfl, hb, hall⟩ := hcells (by omega)
        obtain ⟨c0, c1, c2, c3⟩ := hall k hlt
        clear hall hcells
        have hdr := drop_acts l k hlt
        generalize ha : l.getD k zAct = a at c0 c1 c2 c3 hdr
        clear ha
        rw [hdr] at HK
        clear hdr
        go_wp2_with ((go_at_call 22; refine (isAct_any _ _).mono ?_; rintro e w1 ⟨rfl, hb1⟩; have HB1 := Lib.hid (below_at HB.out (by omega) hb1); obtain ⟨hc1, hf1⟩ := bcell hb1))
        all_goals first
          | (go_ret; exact ⟨ret_int (by rw [HS.out, HK.out]; exact cf_bad (by first | exact Or.inl (by simpa using ‹¬ _ = true›) | exact Or.inr (Or.inl ‹_›) | (refine Or.inr (Or.inr ⟨‹_›, ?_⟩); omega))), below_alloc_old HB1.out⟩)
          | (go_ret; exact ⟨ret_int (by rw [HS.out, HK.out]; exact cf_neg (by assumption) (by assumption) (fun e => by omega) hq0 hq1 (by omega) (by omega) (by first | (rw [if_pos ‹_›]; done) | (rw [if_neg ‹_›]; done)) (by assumption)), below_alloc_old HB1.out⟩)
          | (have hgo := cf_go (size := fast.size) (q := q) (k := k) (a := a) (l := l.drop (k + 1)) (by assumption) (by assumption) (fun e => by omega) hq0 hq1 (by omega) (by omega) (by first | (rw [if_pos ‹_›]; done) | (rw [if_neg ‹_›]; done)) (by assumption)
             obtain ⟨hg1, hg2, hg3, hg4⟩ := hgo
             have HQ' := HQ.out
             go_roundw
             case rel => exact ⟨k + 1, _, by omega, by first | go_num | (simp; omega), rfl, by assumption, by first | omega | (simp_all; omega), by intro h; omega, by rw [HK.out]; exact hg1, HB1.out⟩
             case measure => simp [intOf]; omega)
      · go_wp2_with fail
        go_ret
        exact ⟨ret_int (by rw [HS.out, HK.out, List.drop_of_length_le (by omega)]; rfl), below_alloc_old HB.out⟩
end Go.Proofs.YtinkdjeanjhkbaaGreatDoor
