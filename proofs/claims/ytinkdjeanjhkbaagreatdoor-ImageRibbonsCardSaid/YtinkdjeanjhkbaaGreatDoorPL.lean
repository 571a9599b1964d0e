/-
  The plain law of ImageKeeps's round; the row of writes that came in; the loop's invariant.
-/
import Derived.Test.YtinkdjeanjhkbaaGreatDoorZ
namespace Go.Proofs.YtinkdjeanjhkbaaGreatDoor
open Go.RowKit

/-! ### a round, plain -/

theorem keep_large {room : Int} (hr : 1000 ≤ room ∧ room ≤ 6000000) {F : List UInt8} (hF : (F.length : Int) ≤ room) (u : ByteArray) (hu : 2000000 < u.size) : PutR (rib room F []) u = .inl 7 := by
  unfold PutR
  rw [if_pos (rib_valid0 hr hF), if_pos hu]

theorem keep_room {room : Int} (hr : 1000 ≤ room ∧ room ≤ 6000000) {F : List UInt8} (hF : (F.length : Int) ≤ room) {n : Int} {t : List UInt8} {k : Nat} (h : Holds F n t k) (hn1 : Num (n + 1)) (u : ByteArray) (hu : u.size ≤ 2000000)
    (hroom : room < ((bytesL n t).length : Int) + ((bytesL (n + 1) (bl u)).length : Int)) : PutR (rib room F []) u = .inl 263 ∧ room < (t.length : Int) + u.size + 200 := by
  refine ⟨by rw [PutR_ok u hr hF h hn1 hu, if_pos hroom], ?_⟩
  have hz : (bl u).length = u.size := by rw [← size_bl]
  have l1 := bytesL_len n t h.num.1 h.num.2 h.len
  have l2 := bytesL_len (n + 1) (bl u) hn1.1 hn1.2 (by omega)
  omega

theorem putList_len (F : List UInt8) (k L : Nat) (B : List UInt8) : 4 ≤ (putList F k L B).length ∧ (putList F k L B).length ≤ 6 := by
  unfold putList; split <;> simp
theorem putList_last (F : List UInt8) (k L : Nat) (B : List UInt8) : ((putList F k L B).getD ((putList F k L B).length - 1) zAct).kind = 3 := by
  unfold putList; split <;> rfl

theorem keep_put {room : Int} (hr : 1000 ≤ room ∧ room ≤ 6000000) {F : List UInt8} (hF : (F.length : Int) ≤ room) {n : Int} {t : List UInt8} {k : Nat} (h : Holds F n t k) (hn1 : Num (n + 1)) (u : ByteArray) (hu : u.size ≤ 2000000)
    (hroom : ¬ room < ((bytesL n t).length : Int) + ((bytesL (n + 1) (bl u)).length : Int)) :
    ∃ L : List RAct, PutR (rib room F []) u = .inr L ∧ 4 ≤ L.length ∧ L.length ≤ 6 ∧ (L.getD (L.length - 1) zAct).kind = 3 ∧
      (actR (rib room F []) L = some (rib room (bytesL (n + 1) (bl u)) []) ∧ ((bytesL (n + 1) (bl u)).length : Int) ≤ room ∧ Holds (bytesL (n + 1) (bl u)) (n + 1) (bl u) 0) ∧
      ∀ c, c < L.length → ∃ r', actR (rib room F []) (L.take c) = some r' ∧ ∀ a b d, ∃ F', loseR r' a b d = some (rib room F' []) ∧ (F'.length : Int) ≤ room ∧ ((∃ k, Holds F' n t k) ∨ (∃ k, Holds F' (n + 1) (bl u) k)) := by
  have hz : (bl u).length = u.size := by rw [← size_bl]
  have l1 := bytesL_len n t h.num.1 h.num.2 h.len
  have l2 := bytesL_len (n + 1) (bl u) hn1.1 hn1.2 (by omega)
  have hcut := fun c hc => put_cut hr hF h hn1 (u := bl u) (by omega) (by omega) c hc
  refine ⟨putList F k (bytesL n t).length (bytesL (n + 1) (bl u)), by rw [PutR_ok u hr hF h hn1 hu, if_neg hroom], (putList_len _ _ _ _).1, (putList_len _ _ _ _).2, putList_last _ _ _ _, ⟨?_, by omega, holds_one hn1 (by omega)⟩, fun c hc => ?_⟩
  · obtain ⟨r', e1, e2, _⟩ := hcut _ (Nat.le_refl _)
    rw [List.take_of_length_le (Nat.le_refl _), e2 rfl] at e1
    exact e1
  · obtain ⟨r', e1, _, e3⟩ := hcut c (by omega)
    refine ⟨r', e1, fun a b d => ?_⟩
    obtain ⟨r2, e4, F', rfl, e5, e6⟩ := e3 a b d
    exact ⟨F', e4, e5, e6⟩

theorem num_le {n : Int} (h0 : 0 ≤ n) (h1 : n ≤ 1000) : Num n := ⟨h0, by omega⟩

/-! ### the row of writes -/

structure Wr where
  text : ByteArray
  cut : Int
  a : Int
  b : Int
  c : Int
def zWr : Wr := ⟨⟨#[]⟩, 0, 0, 0, 0⟩
def Wr.vals (x : Wr) : List Value := [.string x.text, .int .u8 x.cut, .int .i64 x.a, .int .i64 x.b, .int .i64 x.c]

def WrAt (w : World) (b o : Nat) (x : Wr) : Prop :=
  w.cell? ⟨b, o, none⟩ = some (.string x.text) ∧ w.cell? ⟨b, o + 1, none⟩ = some (.int .u8 x.cut) ∧ w.cell? ⟨b, o + 2, none⟩ = some (.int .i64 x.a) ∧
  w.cell? ⟨b, o + 3, none⟩ = some (.int .i64 x.b) ∧ w.cell? ⟨b, o + 4, none⟩ = some (.int .i64 x.c)
theorem WrAt.below {w w' : World} {B b o : Nat} {x : Wr} (h : WrAt w b o x) (hb : b < B) (hB : Below B w w') : WrAt w' b o x :=
  ⟨(hB.cell (p := ⟨b, o, none⟩) hb).trans h.1, (hB.cell (p := ⟨b, o + 1, none⟩) hb).trans h.2.1, (hB.cell (p := ⟨b, o + 2, none⟩) hb).trans h.2.2.1, (hB.cell (p := ⟨b, o + 3, none⟩) hb).trans h.2.2.2.1, (hB.cell (p := ⟨b, o + 4, none⟩) hb).trans h.2.2.2.2⟩

def WritesIn (B : Nat) (w : World) (v : Value) (l : List Wr) : Prop :=
  ∃ A cap, v = .slice A l.length cap ∧ l.length ≤ 9223372036854775807 ∧ (∀ i, i < l.length → 0 ≤ (l.getD i zWr).cut ∧ (l.getD i zWr).cut < 256) ∧
    (0 < l.length → ∃ b o, A = some ⟨b, o, none⟩ ∧ b < B ∧ ∀ i, i < l.length → WrAt w b (o + i * 5) (l.getD i zWr))

/-! ### the loop's invariant -/

structure KInv (w : World) (rb base : Nat) (room : Int) (F : List UInt8) (cap : Nat) (A : Option Addr) (mv : Value) (n : Nat) (t : List UInt8) (wr : World) : Prop where
  low : Below w.heap.size w wr
  box : wr.heap[rb]? = some (.cells #[.int .i64 room, .string (mkB F), .slice A 0 cap] 24 (0, 0))
  nil : A = none → cap = 0
  row : ∃ ms : List Value, wr.ownsRow base 9 1 mv (n + 1) ms ∧ ms[n]? = some (.string (mkB t))
  rlow : w.heap.size ≤ rb
  rbase : rb < base
  rsize : rb < wr.heap.size
  bsize : base ≤ wr.heap.size

theorem KInv.below {w : World} {rb base : Nat} {room : Int} {F : List UInt8} {cap : Nat} {A : Option Addr} {mv : Value} {n : Nat} {t : List UInt8} {wr w' : World} (h : KInv w rb base room F cap A mv n t wr) (hb : Below wr.heap.size wr w') : KInv w rb base room F cap A mv n t w' := by
  obtain ⟨ms, h1, h2⟩ := h.row
  exact ⟨h.low.trans (hb.mono h.low.size), (hb.block _ h.rsize).trans h.box, h.nil, ⟨ms, own_below h1 hb, h2⟩, h.rlow, h.rbase, Nat.lt_of_lt_of_le h.rsize hb.size, Nat.le_trans h.bsize hb.size⟩

theorem own_set {w : World} {base e size n : Nat} {v : Value} {xs : List Value} (h : w.ownsRow base e size v n xs) {b : Nat} (hb : b < base) (j : Nat) (u : Value) : (w.setCell ⟨b, j, none⟩ u).ownsRow base e size v n xs := by
  refine ⟨h.1, ?_⟩
  rcases h.2 with e | ⟨g, cap, cur, e, hg, hh, r⟩
  · exact Or.inl e
  · exact Or.inr ⟨g, cap, cur, e, hg, by rw [Below.heap_setCell _ _ _ _ (by show g ≠ b; omega)]; exact hh, r⟩

theorem KInv.set {w : World} {rb base : Nat} {room : Int} {F F' : List UInt8} {cap cap' : Nat} {A A' : Option Addr} {mv : Value} {n : Nat} {t : List UInt8} {wr : World} (h : KInv w rb base room F cap A mv n t wr) (h' : A' = none → cap' = 0) :
    KInv w rb base room F' cap' A' mv n t (((wr.setCell ⟨rb, 0, none⟩ (.int .i64 room)).setCell ⟨rb, 1, none⟩ (.string (mkB F'))).setCell ⟨rb, 2, none⟩ (.slice A' 0 cap')) := by
  have hrb := h.rlow
  obtain ⟨ms, h1, h2⟩ := h.row
  refine ⟨below_set3 h.low hrb _ _ _, ?_, h', ⟨ms, own_set (own_set (own_set h1 h.rbase 0 _) h.rbase 1 _) h.rbase 2 _, h2⟩, hrb, h.rbase, by simpa [World.setCell] using h.rsize, by simpa [World.setCell] using h.bsize⟩
  have b3 := heap_setCell_at (heap_setCell_at (heap_setCell_at h.box 0 (.int .i64 room)) 1 (.string (mkB F'))) 2 (.slice A' 0 cap')
  exact b3

/-- what the walk reads of the texts that may be there -/
theorem KInv.may {w : World} {rb base : Nat} {room : Int} {F : List UInt8} {cap : Nat} {A : Option Addr} {mv : Value} {n : Nat} {t : List UInt8} {wr : World} (h : KInv w rb base room F cap A mv n t wr) :
    ∃ g c, mv = .slice (some ⟨g, 0, none⟩) (n + 1) c ∧ n + 1 ≤ c ∧ wr.cell? ⟨g, n, none⟩ = some (.string (mkB t)) := by
  obtain ⟨ms, h1, h2⟩ := h.row
  have h1' := h1
  rcases h1.2 with ⟨_, h0⟩ | ⟨g, c, cur, rfl, hg, hb, hc, _⟩
  · omega
  · exact ⟨g, c, rfl, hc, (h1'.cellAt n (by omega)).trans h2⟩

theorem KInv.cells {w : World} {rb base : Nat} {room : Int} {F : List UInt8} {cap : Nat} {A : Option Addr} {mv : Value} {n : Nat} {t : List UInt8} {wr : World} (h : KInv w rb base room F cap A mv n t wr) :
    wr.cell? ⟨rb, 0, none⟩ = some (.int .i64 room) ∧ wr.cell? ⟨rb, 1, none⟩ = some (.string (mkB F)) ∧ wr.cell? ⟨rb, 2, none⟩ = some (.slice A 0 cap) :=
  ⟨Lib.cell_of_heap h.box 0, Lib.cell_of_heap h.box 1, Lib.cell_of_heap h.box 2⟩

/-- a text more -/
theorem KInv.append {w : World} {rb base : Nat} {room : Int} {F : List UInt8} {cap : Nat} {A : Option Addr} {mv mv' : Value} {n : Nat} {t t' : List UInt8} {wr w1 : World} {ms : List Value} (h : KInv w rb base room F cap A mv n t wr)
    (hown : w1.ownsRow base 9 1 mv' (n + 1 + 1) (ms ++ [.string (mkB t')])) (hl : ms.length = n + 1) (hgr : wr.grownBy w1 mv.ownBlock) (hm : ∀ g, mv.ownBlock = some g → base ≤ g) : KInv w rb base room F cap A mv' (n + 1) t' w1 := by
  have hne : some rb ≠ mv.ownBlock := fun e => by have := hm rb e.symm; have := h.rbase; omega
  refine ⟨h.low.grown hgr h.low.size (fun b hb => ?_), (hgr.block rb h.rsize hne).trans h.box, h.nil, ⟨_, hown, ?_⟩, h.rlow, h.rbase, Nat.lt_of_lt_of_le h.rsize hgr.size, Nat.le_trans h.bsize hgr.size⟩
  · have := hm b hb; have := h.rbase; have := h.rlow; omega
  · rw [List.getElem?_append_right (by omega), hl]; simp

theorem actsTake {B : Nat} {w : World} {A : Option Addr} {cap : Nat} {L : List RAct} (h : ActsIn B w (.slice A L.length cap) L) (c : Nat) (hc : c ≤ L.length) : ActsIn B w (.slice A c cap) (L.take c) := by
  obtain ⟨A', cap', h1, h2, h3, h4⟩ := h
  injection h1 with h1 _ h1'
  subst h1; subst h1'
  have hl : (L.take c).length = c := by simp; omega
  refine ⟨A, cap, by rw [hl], by omega, ⟨h3.1, by omega⟩, fun h0 => ?_⟩
  obtain ⟨b, o, e, hb, hi⟩ := h4 (by omega)
  refine ⟨b, o, e, hb, fun i hil => ?_⟩
  have := hi i (by omega)
  rw [List.getD_eq_getElem?_getD] at this
  rw [List.getD_eq_getElem?_getD, List.getElem?_take_of_lt (by omega)]
  exact this

theorem acts_up {B : Nat} {w W : World} {v : Value} {l : List RAct} (h : ActsIn B w v l) (hb : Below B w W) (hs : B ≤ W.heap.size) : ActsIn W.heap.size W v l := (h.below hb).mono hs
theorem actsNil {B : Nat} {w : World} {A : Option Addr} {cap : Nat} (h : A = none → cap = 0) : ActsIn B w (.slice A 0 cap) [] := ⟨A, cap, rfl, by simp, ⟨h, by simp⟩, fun h => by simp at h⟩

/-! ### the variable 'next' -/

structure NextAt (w1 Wf : World) (nb : Nat) (r : Rib) (A : Option Addr) (c : Nat) : Prop where
  low : Below w1.heap.size w1 Wf
  box : Wf.heap[nb]? = some (.cells #[.int .i64 r.room, .string r.fast, .slice A r.acts.length c] 24 (0, 0))
  lo : w1.heap.size ≤ nb
  acts : ActsIn Wf.heap.size Wf (.slice A r.acts.length c) r.acts

theorem next_new {w1 W w2 : World} {r : Rib} {A : Option Addr} {c : Nat} (hw : Below w1.heap.size w1 W) (hb : Below W.heap.size W w2) (ha : ActsIn w2.heap.size w2 (.slice A r.acts.length c) r.acts) :
    NextAt w1 (w2.alloc (.cells #[.int .i64 r.room, .string r.fast, .slice A r.acts.length c] 24)) w2.heap.size r A c := by
  have h12 := hw.trans (hb.mono hw.size)
  exact ⟨h12.alloc h12.size _, heap_alloc_new _ _, h12.size, (ha.below ((Below.refl _ _).alloc (Nat.le_refl _) _)).mono (by simp)⟩

theorem next_set {w1 w2 : World} {r : Rib} {A : Option Addr} {c nb : Nat} {x y z : Value} (hw : Below w1.heap.size w1 w2) (hlo : w1.heap.size ≤ nb) (hbx : w2.heap[nb]? = some (.cells #[x, y, z] 24 (0, 0))) (ha : ActsIn w2.heap.size w2 (.slice A r.acts.length c) r.acts) :
    NextAt w1 (((w2.setCell ⟨nb, 0, none⟩ (.int .i64 r.room)).setCell ⟨nb, 1, none⟩ (.string r.fast)).setCell ⟨nb, 2, none⟩ (.slice A r.acts.length c)) nb r A c :=
  ⟨below_set3 hw hlo _ _ _, heap_setCell_at (heap_setCell_at (heap_setCell_at hbx 0 _) 1 _) 2 _, hlo, acts_set3 ha hbx (by simp) _ _ _⟩

theorem NextAt.below {w1 Wf W' : World} {nb : Nat} {r : Rib} {A : Option Addr} {c : Nat} (h : NextAt w1 Wf nb r A c) (hb : Below Wf.heap.size Wf W') : NextAt w1 W' nb r A c :=
  ⟨h.low.trans (hb.mono h.low.size), (hb.block _ (Array.getElem?_eq_some_iff.1 h.box).1).trans h.box, h.lo, (h.acts.below hb).mono hb.size⟩
theorem NextAt.cells {w1 Wf : World} {nb : Nat} {r : Rib} {A : Option Addr} {c : Nat} (h : NextAt w1 Wf nb r A c) :
    Wf.cell? ⟨nb, 0, none⟩ = some (.int .i64 r.room) ∧ Wf.cell? ⟨nb, 1, none⟩ = some (.string r.fast) ∧ Wf.cell? ⟨nb, 2, none⟩ = some (.slice A r.acts.length c) ∧ nb < Wf.heap.size ∧ ∀ j, Wf.frozen? ⟨nb, j, none⟩ = false :=
  ⟨Lib.cell_of_heap h.box 0, Lib.cell_of_heap h.box 1, Lib.cell_of_heap h.box 2, (Array.getElem?_eq_some_iff.1 h.box).1, Lib.frozen_of_heap h.box⟩
theorem low_of {w1 W w2 : World} (hb : Below W.heap.size W w2) (hw : Below w1.heap.size w1 W) : Below w1.heap.size w1 w2 := hw.trans (hb.mono hw.size)
theorem acts_nil_cap {B : Nat} {w : World} {A : Option Addr} {n c : Nat} {l : List RAct} (h : ActsIn B w (.slice A n c) l) : A = none → c = 0 := by
  obtain ⟨A', c', e, _, h, _⟩ := h
  injection e with e1 _ e2
  subst e1; subst e2
  exact h.1
end Go.Proofs.YtinkdjeanjhkbaaGreatDoor
