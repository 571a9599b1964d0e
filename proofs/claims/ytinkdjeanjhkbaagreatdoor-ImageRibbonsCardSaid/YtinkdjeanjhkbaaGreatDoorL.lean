/-
  The walks of image.records and image.held.
-/
import Derived.Test.YtinkdjeanjhkbaaGreatDoorK
namespace Go.Proofs.YtinkdjeanjhkbaaGreatDoor
open Go.RowKit Go.Shelf
attribute [local go_sem] Oper.semAt_some

theorem records_any (s : ByteArray) (w : World) :
    Calls Tryz.prog 61 #[.string s] w fun e w' => e = .returned (.func (.func 84) #[] #[.pointer (some ⟨w.heap.size, 0, none⟩)]) ∧ w' = w.alloc (.cells #[.string s] 9) := by
  go_enter Tryz.func61, Tryz.ntmps61
  go_wp2
  go_ret
  exact ⟨rfl, rfl⟩

theorem digits_le (n k : Int) (many : Nat) (hk : k = many) (h0 : -9223372036854775808 ≤ n) (h1 : n ≤ 9223372036854775807) : (digitsL n k).length ≤ many + 20 := by
  subst hk
  have := itoa_len n h0 h1
  simp only [digitsL, List.length_append, List.length_replicate]
  omega
theorem rec_len_le (x : Rec) : 1 ≤ x.len ∧ x.len ≤ 7000000 := by
  obtain ⟨⟨n, t⟩, ⟨h0, h1⟩, h2⟩ := x
  have d1 := digits_le n 12 12 rfl h0 h1
  have d2 := digits_le t.length 8 8 rfl (by omega) (by simp only at h2; omega)
  have b3 := sumL_bound t
  have d3 := digits_le (sumL t) 10 10 rfl (by omega) (by omega)
  have b4 := sumL_bound (magicL ++ digitsL n 12 ++ digitsL t.length 8)
  have d4 := digits_le (sumL (magicL ++ digitsL n 12 ++ digitsL t.length 8)) 10 10 rfl (by omega) (by omega)
  have e : magicL.length = 4 := rfl
  simp only at h2
  simp only [Rec.len, bytesL, sealedL, List.length_append, List.length_cons, List.length_nil, e]
  simp only [List.append_assoc] at d4 ⊢
  omega

theorem recs_nil {s : List UInt8} {xs : List Rec} {s' : List UInt8} (h : Recs s xs s') : xs = [] → s' = s := by
  cases h with
  | nil => intro _; rfl
  | snoc _ _ => intro e; simp at e
theorem Recs.cons {s : List UInt8} {xs : List Rec} {s' : List UInt8} (h : Recs s xs s') : ∀ x l, xs = x :: l → readL s = some x.1 ∧ Recs (s.drop x.len) l s' := by
  induction h with
  | nil => intro x l e; cases e
  | @snoc pre s1 y h1 hx ih =>
    intro x l e
    cases pre with
    | nil =>
      simp at e
      obtain ⟨rfl, rfl⟩ := e
      rw [recs_nil h1 rfl] at hx ⊢
      exact ⟨hx, .nil _⟩
    | cons z pre =>
      simp at e
      obtain ⟨rfl, rfl⟩ := e
      obtain ⟨h3, h4⟩ := ih z pre rfl
      exact ⟨h3, .snoc h4 hx⟩

/-- what held returns -/
def HeldOut (fast : List UInt8) (w : World) (e : Ending) (w' : World) : Prop :=
  Below w.heap.size w w' ∧
    if fast.length < 45 then e = .returned (.tuple #[.agg #[.int .i64 0, .string ⟨#[]⟩, .int .i64 0], .int .i64 0, .int .i64 261])
    else match heldR fast with
      | none => e = .returned (.tuple #[.agg #[.int .i64 0, .string ⟨#[]⟩, .int .i64 0], .int .i64 0, .int .i64 262])
      | some ((n, t), k) => e = .returned (.tuple #[.agg #[.int .i64 n, .string (mkB t), .int .i64 (plen (n, t) : Int)], .int .i64 (k : Int), .int .i64 0])

def Rec.cells (x : Rec) : Array Value := #[.int .i64 x.1.1, .string (mkB x.1.2), .int .i64 (x.len : Int)]
def hAt : List Rec → Int
  | [x, _] => x.len
  | _ => 0
def hNext : List Rec → Int
  | [] => 0
  | [x] => x.len
  | x :: y :: _ => x.len + y.len
def hOut : List Rec → Array Value
  | [] => #[.int .i64 0, .string ⟨#[]⟩, .int .i64 0]
  | [x] => x.cells
  | _ :: y :: _ => y.cells
def hFound : List Rec → Bool
  | [] => false
  | _ => true
def hOk (fs : Nat) : List Rec → Prop
  | [] => True
  | [_] => True
  | [x, y] => y.1.1 = wrap64 (x.1.1 + 1) ∧ x.len + y.len = fs
  | _ => False

/-- why a round leaves the loop -/
def HeldEnd (fs : Nat) : List Rec → Rec → Prop
  | [], _ => False
  | [x], y => ¬ (y.1.1 = wrap64 (x.1.1 + 1) ∧ x.len + y.len = fs)
  | _, _ => True

structure HeldInv (w : World) (m : Nat) (room : Int) (fast : ByteArray) (A : Option Addr) (na ca : Nat) (pre : List Rec) (W : World) : Prop where
  ok : hOk fast.size pre
  box : W.heap[w.heap.size]? = some (.cells #[.int .i64 room, .string fast, .slice A na ca] 24 (0, 0))
  res : W.heap[w.heap.size + 1]? = some (.cells #[.int .i64 0, .string ⟨#[]⟩, .int .i64 0] 69 (0, 0))
  at_ : W.heap[m]? = some (.cells #[.int .i64 (hAt pre)] 3 (0, 0))
  next : W.heap[m + 1]? = some (.cells #[.int .i64 (hNext pre)] 3 (0, 0))
  out : W.heap[m + 1 + 1]? = some (.cells (hOut pre) 69 (0, 0))
  found : W.heap[m + 1 + 1 + 1]? = some (.cells #[.bool (hFound pre)] 4 (0, 0))
  below : Below w.heap.size w W
  size : m + 5 ≤ W.heap.size

theorem cells_kept {X Y : World} {row : Option Nat} {B k : Nat} {c : Array Value} {t : TypeId} {f : Nat × Nat} (h : X.heap[k]? = some (.cells c t f)) (hg : X.grownBy Y row)
    (hr : ∀ r, row = some r → B ≤ r ∧ ∃ o : Obj, X.heap[r]? = some o ∧ o.isCells = false) : Y.heap[k]? = some (.cells c t f) := by
  rw [hg.block k (Array.getElem?_eq_some_iff.1 h).1 (fun e => ?_)]
  · exact h
  · obtain ⟨_, o, ho, hc⟩ := hr k e.symm
    rw [h] at ho
    cases ho; cases hc

theorem HeldInv.grown {w : World} {m : Nat} {room : Int} {fast : ByteArray} {A : Option Addr} {na ca : Nat} {pre : List Rec} {X Y : World} {B : Nat} {row : Option Nat}
    (h : HeldInv w m room fast A na ca pre X) (hB : w.heap.size ≤ B) (hg : X.grownBy Y row) (hr : ∀ r, row = some r → B ≤ r ∧ ∃ o : Obj, X.heap[r]? = some o ∧ o.isCells = false) :
    HeldInv w m room fast A na ca pre Y := by
  obtain ⟨h0, h1, h2, h3, h4, h5, h6, h7, h8⟩ := h
  have := hg.size
  exact ⟨h0, cells_kept h1 hg hr, cells_kept h2 hg hr, cells_kept h3 hg hr, cells_kept h4 hg hr, cells_kept h5 hg hr, cells_kept h6 hg hr, h7.grown hg h7.size (fun k e => by have := (hr k e).1; omega), by omega⟩

theorem HeldInv.set {w : World} {m : Nat} {room : Int} {fast : ByteArray} {A : Option Addr} {na ca : Nat} {pre : List Rec} {X : World}
    (h : HeldInv w m room fast A na ca pre X) (hm : w.heap.size + 1 < m) (v : Value) :
    HeldInv w m room fast A na ca pre (X.setCell ⟨m + 1 + 1 + 1 + 1, 0, none⟩ v) := by
  obtain ⟨h0, h1, h2, h3, h4, h5, h6, h7, h8⟩ := h
  refine ⟨h0, ?_, ?_, ?_, ?_, ?_, ?_, h7.setCell (by simp; omega) _, by simp [World.setCell]; exact h8⟩
  all_goals (rw [Below.heap_setCell _ _ _ _ (by show _ ≠ m + 1 + 1 + 1 + 1; omega)]; assumption)

theorem held_start {w w1 : World} {room : Int} {fast : ByteArray} {A : Option Addr} {na ca : Nat} (hb : w1.heap[w.heap.size]? = some (.cells #[.int .i64 room, .string fast, .slice A na ca] 24 (0, 0)))
    (hr : w1.heap[w.heap.size + 1]? = some (.cells #[.int .i64 0, .string ⟨#[]⟩, .int .i64 0] 69 (0, 0))) (h1 : Below w.heap.size w w1) (hz : w.heap.size + 1 < w1.heap.size) :
    HeldInv w w1.heap.size room fast A na ca [] (((((w1.alloc (.cells #[.int .i64 0] 3)).alloc (.cells #[.int .i64 0] 3)).alloc (.cells #[.int .i64 0, .string ⟨#[]⟩, .int .i64 0] 69)).alloc (.cells #[.bool false] 4)).alloc (.cells #[.string fast] 9)) ∧
    (((((w1.alloc (.cells #[.int .i64 0] 3)).alloc (.cells #[.int .i64 0] 3)).alloc (.cells #[.int .i64 0, .string ⟨#[]⟩, .int .i64 0] 69)).alloc (.cells #[.bool false] 4)).alloc (.cells #[.string fast] 9)).heap[w1.heap.size + 1 + 1 + 1 + 1]? = some (.cells #[.string fast] 9 (0, 0)) ∧
    (((((w1.alloc (.cells #[.int .i64 0] 3)).alloc (.cells #[.int .i64 0] 3)).alloc (.cells #[.int .i64 0, .string ⟨#[]⟩, .int .i64 0] 69)).alloc (.cells #[.bool false] 4)).alloc (.cells #[.string fast] 9)).heap.size = w1.heap.size + 5 := by
  obtain ⟨W1, e1⟩ : ∃ W1, w1.alloc (.cells #[.int .i64 0] 3) = W1 := ⟨_, rfl⟩
  obtain ⟨W2, e2⟩ : ∃ W2, W1.alloc (.cells #[.int .i64 0] 3) = W2 := ⟨_, rfl⟩
  obtain ⟨W3, e3⟩ : ∃ W3, W2.alloc (.cells #[.int .i64 0, .string ⟨#[]⟩, .int .i64 0] 69) = W3 := ⟨_, rfl⟩
  obtain ⟨W4, e4⟩ : ∃ W4, W3.alloc (.cells #[.bool false] 4) = W4 := ⟨_, rfl⟩
  obtain ⟨W5, e5⟩ : ∃ W5, W4.alloc (.cells #[.string fast] 9) = W5 := ⟨_, rfl⟩
  rw [e1, e2, e3, e4, e5]
  have z1 : W1.heap.size = w1.heap.size + 1 := by rw [← e1]; simp
  have z2 : W2.heap.size = w1.heap.size + 1 + 1 := by rw [← e2]; simp [z1]
  have z3 : W3.heap.size = w1.heap.size + 1 + 1 + 1 := by rw [← e3]; simp [z2]
  have z4 : W4.heap.size = w1.heap.size + 1 + 1 + 1 + 1 := by rw [← e4]; simp [z3]
  have z5 : W5.heap.size = w1.heap.size + 5 := by rw [← e5]; simp [z4]
  have a1 : W1.heap[w1.heap.size]? = some (.cells #[.int .i64 0] 3 (0, 0)) := by rw [← e1]; exact heap_alloc_new _ _
  have a2 : W2.heap[w1.heap.size + 1]? = some (.cells #[.int .i64 0] 3 (0, 0)) := by rw [← e2, ← z1]; exact heap_alloc_new _ _
  have a3 : W3.heap[w1.heap.size + 1 + 1]? = some (.cells #[.int .i64 0, .string ⟨#[]⟩, .int .i64 0] 69 (0, 0)) := by rw [← e3, ← z2]; exact heap_alloc_new _ _
  have a4 : W4.heap[w1.heap.size + 1 + 1 + 1]? = some (.cells #[.bool false] 4 (0, 0)) := by rw [← e4, ← z3]; exact heap_alloc_new _ _
  have a5 : W5.heap[w1.heap.size + 1 + 1 + 1 + 1]? = some (.cells #[.string fast] 9 (0, 0)) := by rw [← e5, ← z4]; exact heap_alloc_new _ _
  have k5 : ∀ k, k < W4.heap.size → W5.heap[k]? = W4.heap[k]? := fun k h => by rw [← e5]; exact Below.heap_alloc _ _ _ h
  have k4 : ∀ k, k < W3.heap.size → W4.heap[k]? = W3.heap[k]? := fun k h => by rw [← e4]; exact Below.heap_alloc _ _ _ h
  have k3 : ∀ k, k < W2.heap.size → W3.heap[k]? = W2.heap[k]? := fun k h => by rw [← e3]; exact Below.heap_alloc _ _ _ h
  have k2 : ∀ k, k < W1.heap.size → W2.heap[k]? = W1.heap[k]? := fun k h => by rw [← e2]; exact Below.heap_alloc _ _ _ h
  have k1 : ∀ k, k < w1.heap.size → W1.heap[k]? = w1.heap[k]? := fun k h => by rw [← e1]; exact Below.heap_alloc _ _ _ h
  have q4 := (k5 _ (by omega)).trans a4
  have q3 := (k5 _ (by omega)).trans ((k4 _ (by omega)).trans a3)
  have q2 := (k5 _ (by omega)).trans ((k4 _ (by omega)).trans ((k3 _ (by omega)).trans a2))
  have q1 := (k5 _ (by omega)).trans ((k4 _ (by omega)).trans ((k3 _ (by omega)).trans ((k2 _ (by omega)).trans a1)))
  have q0 := (k5 _ (by omega)).trans ((k4 _ (by omega)).trans ((k3 _ (by omega)).trans ((k2 _ (by omega)).trans ((k1 _ (by omega)).trans hb))))
  have q00 := (k5 _ (by omega)).trans ((k4 _ (by omega)).trans ((k3 _ (by omega)).trans ((k2 _ (by omega)).trans ((k1 _ (by omega)).trans hr))))
  refine ⟨⟨trivial, q0, q00, q1, q2, q3, q4, ?_, by omega⟩, a5, z5⟩
  rw [← e5, ← e4, ← e3, ← e2, ← e1]
  exact ((((h1.alloc (by omega) _).alloc (by simp; omega) _).alloc (by simp; omega) _).alloc (by simp; omega) _).alloc (by simp; omega) _

theorem kpC_t {Bs : Nat} {A B C : World} (h : KpC Bs A B) (k : KpC Bs B C) : KpC Bs A C := ⟨fun i c t f hi hc => k.1 i c t f hi (h.1 i c t f hi hc), h.2.trans k.2⟩
theorem kpC_b {Bs B : Nat} (hB : Bs ≤ B) (h6 : 6 ≤ B) : ∀ (W : World) (l : Nat) (o o' : Obj), B ≤ l → W.heap[l]? = some o → o.isCells = false → o.isWalk = false → KpC Bs W (W.putObj l o') := by
  intro W l o o' hl ho hc _
  refine ⟨fun k c t f _ hk => ?_, rfl, rfl, rfl, by simp [World.putObj], fun k hk => World.putObj_heap_other (by omega)⟩
  rw [World.putObj_heap_other]
  · exact hk
  · rintro rfl
    rw [ho] at hk
    cases hk; cases hc

def updO (j : Nat) (v : Value) : Obj → Obj
  | .cells c t f => .cells (c.setIfInBounds j v) t f
  | o => o
theorem heap_set (w : World) (b j : Nat) (v : Value) (k : Nat) : (w.setCell ⟨b, j, none⟩ v).heap[k]? = if k = b then (w.heap[k]?).map (updO j v) else w.heap[k]? := by
  simp only [World.setCell, Array.getElem?_modify]
  by_cases h : b = k
  · subst h
    rw [if_pos rfl, if_pos rfl]
    cases w.heap[b]? with
    | none => rfl
    | some o => cases o <;> rfl
  · rw [if_neg h, if_neg (fun e => h e.symm)]
theorem heap_drew (w : World) (k : Nat) : w.drew.heap[k]? = w.heap[k]? := rfl

def sets (W : World) : List (Nat × Nat × Value) → World
  | [] => W
  | (b, j, v) :: L => sets (W.setCell ⟨b, j, none⟩ v) L
def blkAt (k : Nat) (o : Obj) (L : List (Nat × Nat × Value)) : Obj := L.foldl (fun o x => if k = x.1 then updO x.2.1 x.2.2 o else o) o
theorem sets_at (L : List (Nat × Nat × Value)) : ∀ (W : World) (k : Nat), (sets W L).heap[k]? = (W.heap[k]?).map (fun o => blkAt k o L) := by
  induction L with
  | nil => intro W k; simp [sets, blkAt]
  | cons x L ih =>
    obtain ⟨b, j, v⟩ := x
    intro W k
    rw [sets, ih, heap_set]
    by_cases h : k = b
    · subst h
      rw [if_pos rfl, Option.map_map]
      congr 1
      funext o
      simp [blkAt]
    · rw [if_neg h]
      congr 1
      funext o
      simp [blkAt, h]
theorem blkAt_other {k : Nat} {o : Obj} {L : List (Nat × Nat × Value)} (h : ∀ x, x ∈ L → x.1 ≠ k) : blkAt k o L = o := by
  induction L with
  | nil => rfl
  | cons x L ih =>
    have := h x (by simp)
    simp only [blkAt, List.foldl_cons]
    rw [if_neg (fun e => this e.symm)]
    exact ih (fun y hy => h y (List.mem_cons_of_mem _ hy))
theorem sets_other {k : Nat} {L : List (Nat × Nat × Value)} (W : World) (h : ∀ x, x ∈ L → x.1 ≠ k) : (sets W L).heap[k]? = W.heap[k]? := by
  rw [sets_at]
  cases W.heap[k]? with
  | none => rfl
  | some o => simp [blkAt_other h]
theorem sets_keeps (L : List (Nat × Nat × Value)) : ∀ W, KeepsOthers W (sets W L) := by
  induction L with
  | nil => intro W; exact KeepsOthers.refl W
  | cons x L ih => obtain ⟨b, j, v⟩ := x; intro W; exact (KeepsOthers.setCell W _ v).trans (ih _)
theorem sets_size (L : List (Nat × Nat × Value)) : ∀ W, (sets W L).heap.size = W.heap.size := by
  induction L with
  | nil => intro W; rfl
  | cons x L ih => obtain ⟨b, j, v⟩ := x; intro W; rw [sets, ih]; simp [World.setCell]
theorem sets_below {B : Nat} (L : List (Nat × Nat × Value)) : ∀ W, (∀ x, x ∈ L → B ≤ x.1) → Below B W (sets W L) := by
  induction L with
  | nil => intro W _; exact Below.refl _ _
  | cons x L ih =>
    obtain ⟨b, j, v⟩ := x
    intro W h
    exact ((Below.refl B W).setCell (p := ⟨b, j, none⟩) (h (b, j, v) (by simp)) v).trans (ih _ (fun y hy => h y (List.mem_cons_of_mem _ hy)))

theorem held_step {w : World} {m : Nat} {room : Int} {fast : ByteArray} {A : Option Addr} {na ca : Nat} {pre pre' : List Rec} {W : World} (L : List (Nat × Nat × Value)) {B : Nat}
    (hi : HeldInv w m room fast A na ca pre W) (hm : w.heap.size + 1 < m) (h6 : 6 ≤ m) (hL : ∀ x, x ∈ L → m ≤ x.1 ∧ x.1 ≤ m + 3) (hok : hOk fast.size pre')
    (ha : blkAt m (.cells #[.int .i64 (hAt pre)] 3 (0, 0)) L = .cells #[.int .i64 (hAt pre')] 3 (0, 0))
    (hn : blkAt (m + 1) (.cells #[.int .i64 (hNext pre)] 3 (0, 0)) L = .cells #[.int .i64 (hNext pre')] 3 (0, 0))
    (ho : blkAt (m + 1 + 1) (.cells (hOut pre) 69 (0, 0)) L = .cells (hOut pre') 69 (0, 0))
    (hf : blkAt (m + 1 + 1 + 1) (.cells #[.bool (hFound pre)] 4 (0, 0)) L = .cells #[.bool (hFound pre')] 4 (0, 0)) :
    KeepsFrom B W (sets W L).drew ∧ KpC (m + 1 + 1 + 1 + 1) W (sets W L).drew ∧ HeldInv w m room fast A na ca pre' (sets W L).drew := by
  obtain ⟨h0, h1, h2, h3, h4, h5, h6', h7, h8⟩ := hi
  refine ⟨((sets_keeps L W).trans (KeepsOthers.drew _)).from _, ⟨fun k c t f hk hc => ?_, (sets_below L W (fun x hx => by have := hL x hx; omega)).drew⟩, hok, ?_, ?_, ?_, ?_, ?_, ?_, ?_, ?_⟩
  · rw [heap_drew, sets_other W (fun x hx e => by have := hL x hx; omega)]; exact hc
  · rw [heap_drew, sets_other W (fun x hx e => by have := hL x hx; omega)]; exact h1
  · rw [heap_drew, sets_other W (fun x hx e => by have := hL x hx; omega)]; exact h2
  · rw [heap_drew, sets_at, h3]; exact congrArg some ha
  · rw [heap_drew, sets_at, h4]; exact congrArg some hn
  · rw [heap_drew, sets_at, h5]; exact congrArg some ho
  · rw [heap_drew, sets_at, h6']; exact congrArg some hf
  · exact (h7.trans (sets_below L W (fun x hx => by have := hL x hx; omega))).drew
  · show _ ≤ (sets W L).heap.size
    rw [sets_size]; exact h8

theorem held_ret {w : World} {m : Nat} {room : Int} {fast : ByteArray} {A : Option Addr} {na ca : Nat} {pre : List Rec} {W : World} {D : Nat} (hi : HeldInv w m room fast A na ca pre W) (hD : w.heap.size ≤ D) (hK : W.heap[D]? = some (.deferred (some []))) (v0 v1 v2 : Value) (W2 : World)
    (h2 : W2 = sets W [(w.heap.size + 1, 0, v0), (w.heap.size + 1, 1, v1), (w.heap.size + 1, 2, v2)] ∨ W2 = (sets W [(w.heap.size + 1, 0, v0), (w.heap.size + 1, 1, v1), (w.heap.size + 1, 2, v2)]).drew) :
    W2.heap[D]? = some (.deferred (some [])) ∧ (W2.putObj D (.deferred none)).heap[w.heap.size + 1]? = some (.cells #[v0, v1, v2] 69 (0, 0)) ∧ Below w.heap.size w (W2.putObj D (.deferred none)) := by
  obtain ⟨L, hL⟩ : ∃ L, [(w.heap.size + 1, 0, v0), (w.heap.size + 1, 1, v1), (w.heap.size + 1, 2, v2)] = L := ⟨_, rfl⟩
  rw [hL] at h2
  have hne : D ≠ w.heap.size + 1 := by rintro rfl; rw [hi.res] at hK; cases hK
  have hh : ∀ k : Nat, W2.heap[k]? = (sets W L).heap[k]? := by rcases h2 with rfl | rfl <;> intro k <;> rfl
  have hb : Below w.heap.size w W2 := by
    have : Below w.heap.size w (sets W L) := hi.below.trans (sets_below L W (fun x hx => by rw [← hL] at hx; simp at hx; rcases hx with rfl | rfl | rfl <;> simp))
    rcases h2 with rfl | rfl
    · exact this
    · exact this.drew
  refine ⟨?_, ?_, ?_⟩
  · rw [hh, sets_other _ (fun x hx => by rw [← hL] at hx; simp at hx; rcases hx with rfl | rfl | rfl <;> exact fun e => hne e.symm)]
    exact hK
  · rw [World.putObj_heap_other (fun e => hne e.symm), hh, sets_at, hi.res, ← hL]
    simp [blkAt, updO]
  · exact hb.trans ⟨rfl, rfl, rfl, by simp [World.putObj], fun k hk => World.putObj_heap_other (by omega)⟩

theorem heldR_nil {s s' : List UInt8} (h : Recs s [] s') (hs : readL s' = none) : heldR s = none := by
  rw [recs_nil h rfl] at hs
  simp [heldR, hs]
theorem heldR_one {s s' : List UInt8} {x : Rec} (h : Recs s [x] s') (hs : readL s' = none) : heldR s = some ((x.1.1, x.1.2), 0) := by
  obtain ⟨h1, h2⟩ := h.cons x [] rfl
  rw [recs_nil h2 rfl] at hs
  have : plen x.1 = x.len := rfl
  simp [heldR, h1, this, hs]
theorem heldR_two {s s' : List UInt8} {x y : Rec} {l : List Rec} (h : Recs s (x :: y :: l) s') (h1 : y.1.1 = wrap64 (x.1.1 + 1)) (h2 : x.len + y.len = s.length) : heldR s = some ((y.1.1, y.1.2), x.len) := by
  obtain ⟨k1, k2⟩ := h.cons x _ rfl
  obtain ⟨k3, _⟩ := k2.cons y _ rfl
  have e1 : plen x.1 = x.len := rfl
  have e2 : plen y.1 = y.len := rfl
  simp only [heldR, k1, e1, e2, k3]
  rw [if_pos ⟨h1, h2⟩]
theorem heldR_bad {s s' : List UInt8} {x y : Rec} {l : List Rec} (h : Recs s (x :: y :: l) s') (h1 : ¬ (y.1.1 = wrap64 (x.1.1 + 1) ∧ x.len + y.len = s.length)) : heldR s = some ((x.1.1, x.1.2), 0) := by
  obtain ⟨k1, k2⟩ := h.cons x _ rfl
  obtain ⟨k3, _⟩ := k2.cons y _ rfl
  have e1 : plen x.1 = x.len := rfl
  have e2 : plen y.1 = y.len := rfl
  simp only [heldR, k1, e1, e2, k3]
  rw [if_neg h1]

theorem heldOut_none {fast : List UInt8} {w w' : World} (hb : Below w.heap.size w w') (h : ¬ fast.length < 45) (hh : heldR fast = none) : HeldOut fast w (.returned (.tuple #[.agg #[.int .i64 0, .string ⟨#[]⟩, .int .i64 0], .int .i64 0, .int .i64 262])) w' := by
  refine ⟨hb, ?_⟩
  rw [if_neg h, hh]
theorem heldOut_some {fast : List UInt8} {w w' : World} {x : Rec} {k : Nat} (hb : Below w.heap.size w w') (h : ¬ fast.length < 45) (hh : heldR fast = some ((x.1.1, x.1.2), k)) :
    HeldOut fast w (.returned (.tuple #[.agg #[.int .i64 x.1.1, .string (mkB x.1.2), .int .i64 (x.len : Int)], .int .i64 (k : Int), .int .i64 0])) w' := by
  refine ⟨hb, ?_⟩
  rw [if_neg h, hh]
  rfl

theorem ownG_exit {α : Type} {B : Nat} {Kp : World → World → Prop} {I : List α → World → Prop} {Ix : Code → List α → World → Prop} {xs : List α} {W w : World} {id : Nat} {a : Act} (h1 : KeepsFrom B W w) (h2 : Ix (.exit id) xs w) :
    ownPostG B Kp I Ix xs W (.exit id) a w := ⟨h1, h2⟩
theorem no_undef {b : Bool} : ¬ (some undef = some (Value.bool b)) := by simp [undef]

set_option maxHeartbeats 6400000 in
set_option maxRecDepth 100000 in
theorem held_any (room : Int) (fast : ByteArray) (A : Option Addr) (na ca : Nat) (w : World) (hz : fast.size ≤ 6000000) (hG : G w) :
    Calls Tryz.prog 40 #[.agg #[.int .i64 room, .string fast, .slice A na ca]] w (HeldOut (bl fast) w) := by
  refine callsIn_wide.1 (callsIn_of_wp_marks (n := 8) Tryz.func40 rfl trivial ?_ rfl)
  simp only [Tryz.ntmps40, List.size_toArray, List.length_cons, List.length_nil, Nat.reduceAdd, Nat.reduceSub, Array.replicate_succ, Array.replicate_zero, List.push_toArray, List.append_toArray, List.nil_append, List.cons_append]
  have h5 := hG.low
  gi_wp2
  have hB0 : Hid (Below w.heap.size w ((w.alloc (Obj.cells #[Value.int IntKind.i64 room, Value.string fast, Value.slice A na ca] 24)).alloc (Obj.cells #[Value.int IntKind.i64 0, Value.string { data := #[] }, Value.int IntKind.i64 0] 69))) :=
    ((Below.refl _ _).alloc (Nat.le_refl _) _).alloc (by simp) _
  have b0 := hB0.out
  have hN : Hid (Below w.heap.size w ((w.alloc (Obj.cells #[Value.int IntKind.i64 room, Value.string fast, Value.slice A na ca] 24)).alloc (Obj.cells #[Value.int IntKind.i64 0, Value.string { data := #[] }, Value.int IntKind.i64 0] 69)).drew) := b0.drew
  clear b0
  refine wpIn_wide.2 ?_
  refine wp_region_noPanic ?_
  go_region_held3 (fun w' => w'.cell? ⟨w.heap.size, 1, none⟩ = some (.string fast))
    (first | go_keep | (rw [(bcell hb1).1 _ _ (by simp; omega)]; simp))
    (first
      | (go_at_call 60
         refine (bytes_any 0 0 ⟨#[]⟩ _ (by decide) (by decide) (by decide) (hG.below hN.out h5)).mono ?_
         rintro e w1 ⟨z, rfl, hzz, HZ, hb1⟩))
  refine NoPanic.normal ?_
  have z45 : (z.size : Int) = 45 := by rw [size_bl, HZ.out, show bl (⟨#[]⟩ : ByteArray) = [] from rfl, bytesL_len 0 [] (by decide) (by decide) (by decide)]; rfl
  have b2 := two_new ((((Below.refl _ _).drew).trans hb1) : Below _ ((w.alloc (Obj.cells #[Value.int IntKind.i64 room, Value.string fast, Value.slice A na ca] 24)).alloc (Obj.cells #[Value.int IntKind.i64 0, Value.string { data := #[] }, Value.int IntKind.i64 0] 69)) w1)
  obtain ⟨bx, rs, hb, hz1⟩ := b2
  have BX := Lib.hid bx
  have RS := Lib.hid rs
  have HB1 := Lib.hid hb
  clear hb1 hB0 hN bx rs hb
  have e1 : w1.cell? ⟨w.heap.size, 1, none⟩ = some (.string fast) := Lib.cell_of_heap BX.out 1
  by_cases h45 : fast.size < 45
  · have g0 : w1.cell? ⟨w.heap.size + 1, 0, none⟩ = some (.int .i64 0) := Lib.cell_of_heap RS.out 0
    have g1 : w1.cell? ⟨w.heap.size + 1, 1, none⟩ = some (.string ⟨#[]⟩) := Lib.cell_of_heap RS.out 1
    have g2 : w1.cell? ⟨w.heap.size + 1, 2, none⟩ = some (.int .i64 0) := Lib.cell_of_heap RS.out 2
    have g3 := Lib.frozen_of_heap RS.out
    have H45 := Lib.hid h45
    clear h45
    have hlt : (fast.size : Int) < 45 := by have := H45.out; omega
    gi_wp2
    refine (⟨Value.tuple #[.agg #[.int .i64 0, .string ⟨#[]⟩, .int .i64 0], .int .i64 0, .int .i64 261], ?_, ?_⟩ : ∃ v, _ ∧ _)
    · simp [results, Tryz.results40, go_sem, g0, g1, g2]
    · refine ⟨Below.setCell (Below.setCell (Below.setCell HB1.out (by simp) _) (by simp) _) (by simp) _, ?_⟩
      rw [if_pos (by rw [← size_bl]; exact H45.out)]
  · have H45 := Lib.hid h45
    have hlt : ¬ (fast.size : Int) < 45 := by omega
    have hz0 : w.heap.size < w1.heap.size := by omega
    have hz01 : w.heap.size < w1.heap.size + 1 := by omega
    have hz02 : w.heap.size < w1.heap.size + 1 + 1 := by omega
    have hz03 : w.heap.size < w1.heap.size + 1 + 1 + 1 := by omega
    clear h45
    gi_wp2_with (refine ⟨trivial, ?_⟩; gi_at_call 61; refine (callsIn_wide.2 (records_any _ _)).mono ?_; rintro e w2 ⟨rfl, rfl⟩)
    have hW0 := held_start (room := room) (fast := fast) (A := A) (na := na) (ca := ca) BX.out RS.out HB1.out hz1
    obtain ⟨hI0, hs0, hW0z⟩ := hW0
    have hG0 : G (((((w1.alloc (.cells #[.int .i64 0] 3)).alloc (.cells #[.int .i64 0] 3)).alloc (.cells #[.int .i64 0, .string ⟨#[]⟩, .int .i64 0] 69)).alloc (.cells #[.bool false] 4)).alloc (.cells #[.string fast] 9)) :=
      (((((hG.below HB1.out h5).alloc _).alloc _).alloc _).alloc _).alloc _
    generalize ((((w1.alloc (.cells #[.int .i64 0] 3)).alloc (.cells #[.int .i64 0] 3)).alloc (.cells #[.int .i64 0, .string ⟨#[]⟩, .int .i64 0] 69)).alloc (.cells #[.bool false] 4)).alloc (.cells #[.string fast] 9) = W0 at hI0 hs0 hW0z hG0 ⊢
    refine wpIn_rangeFunc_cell (Bs := w1.heap.size + 1 + 1 + 1 + 1) rfl (by decide) (gf := 84) (lb := #[.pointer (some ⟨w1.heap.size + 1 + 1 + 1 + 1, 0, none⟩)]) rfl trivial (enters_of Tryz.func84 (by kernel_rfl) rfl)
      (records1 W0 (w1.heap.size + 1 + 1 + 1 + 1) fast (by omega) (by omega) hs0 hG0 hz) kpC_t (kpC_b (by omega) (by omega)) (Below.refl _ _) (fun _ => rfl)
      (fun pre W => HeldInv w w1.heap.size room fast A na ca pre W) (fun c pre W => c = .exit 0 ∧ ∃ pre' x, pre = pre' ++ [x] ∧ HeldInv w w1.heap.size room fast A na ca pre' W ∧ HeldEnd fast.size pre' x)
      ?own ?ownx ?st ?stx hI0
      (fun x a' W => ∃ Bx, w1.heap.size + 1 + 1 + 1 + 1 < Bx ∧ W.heap[Bx]? = some (.cells #[.int .i64 x.1.1, .string (mkB x.1.2), .int .i64 (x.len : Int)] 69 (0, 0)) ∧
        a' = { tmps := #[.agg #[.int .i64 room, .string fast, .slice A na ca], .pointer (some ⟨w.heap.size, 0, none⟩), .pointer (some ⟨w.heap.size + 1, 0, none⟩), .int .i64 0, .int .i64 0, .pointer (some ⟨w1.heap.size, 0, none⟩), .pointer (some ⟨w1.heap.size + 1, 0, none⟩), .pointer (some ⟨w1.heap.size + 1 + 1, 0, none⟩), .pointer (some ⟨w1.heap.size + 1 + 1 + 1, 0, none⟩), .pointer (some ⟨Bx, 0, none⟩), .pointer (some ⟨w.heap.size, 1, none⟩), .string fast, .int .i64 fast.size, .agg #[.int .i64 0, .string ⟨#[]⟩, .int .i64 0], .string z, .int .i64 45, .bool false, undef, .pointer (some ⟨w.heap.size, 1, none⟩), .string fast, .func (.func 84) #[] #[.pointer (some ⟨w1.heap.size + 1 + 1 + 1 + 1, 0, none⟩)], .agg #[.int .i64 x.1.1, .string (mkB x.1.2), .int .i64 (x.len : Int)], undef, undef, undef, undef, undef, undef, undef, undef, undef, undef, undef, undef, undef, undef, undef, undef, undef, undef, undef, undef, undef, undef, undef, undef, undef, undef, undef, undef, undef, undef], defers := [] })
      ?ownax ?assign ?body ?done ?stop
    case own => exact fun s X Y row hs hg hr => HeldInv.grown hs (by omega) hg hr
    case ownx =>
      rintro c s X Y row ⟨hc, pre', x, hs, hi, he⟩ hg hr
      exact ⟨hc, pre', x, hs, HeldInv.grown hi (by omega) hg hr, he⟩
    case st => exact fun pre W v h => h.set hz1 v
    case stx =>
      rintro c pre W v ⟨hc, pre', x, hs, hi, he⟩
      exact ⟨hc, pre', x, hs, hi.set hz1 v, he⟩
    case ownax =>
      rintro x a' _ X Y row ⟨Bx, h1, h2, h3⟩ hg hr
      exact ⟨Bx, h1, cells_kept h2 hg hr, h3⟩
    case assign =>
      rintro l pre x W K hi hK
      simp only [Rec.val]
      gi_wp2
      have hsz := hi.size
      exact hK _ _ ((KeepsOthers.alloc _ _).from _) ⟨fun k c t f _ hc => by rw [Below.heap_alloc _ _ _ (Array.getElem?_eq_some_iff.1 hc).1]; exact hc, (Below.refl 6 W).alloc (by omega) _⟩
        (hi.grown (Nat.le_refl _) (World.grownBy_alloc _ _ none) (fun r e => by cases e)) ⟨W.heap.size, by omega, heap_alloc_new _ _, rfl⟩
    case body =>
      rintro l pre x a' W hl - hi ⟨Bx, hBx, bX, rfl⟩ -
      have HIN := Lib.hid hi
      have x0 : W.cell? ⟨Bx, 0, none⟩ = some (.int .i64 x.1.1) := Lib.cell_of_heap bX 0
      have x1 : W.cell? ⟨Bx, 1, none⟩ = some (.string (mkB x.1.2)) := Lib.cell_of_heap bX 1
      have x2 : W.cell? ⟨Bx, 2, none⟩ = some (.int .i64 (x.len : Int)) := Lib.cell_of_heap bX 2
      have b1 : W.cell? ⟨w.heap.size, 1, none⟩ = some (.string fast) := Lib.cell_of_heap hi.box 1
      have a0 : W.cell? ⟨w1.heap.size, 0, none⟩ = some (.int .i64 (hAt pre)) := Lib.cell_of_heap hi.at_ 0
      have n0 : W.cell? ⟨w1.heap.size + 1, 0, none⟩ = some (.int .i64 (hNext pre)) := Lib.cell_of_heap hi.next 0
      have o0 := fun j => Lib.cell_of_heap hi.out j
      have f0 : W.cell? ⟨w1.heap.size + 1 + 1 + 1, 0, none⟩ = some (.bool (hFound pre)) := Lib.cell_of_heap hi.found 0
      have fa := Lib.frozen_of_heap hi.at_
      have fn := Lib.frozen_of_heap hi.next
      have fo := Lib.frozen_of_heap hi.out
      have ff := Lib.frozen_of_heap hi.found
      have hlen := rec_len_le x
      have hmx : Tryz.prog.follows .mixedOrders = true := by kernel_rfl
      clear hi bX
      rcases pre with _ | ⟨y, _ | ⟨y2, rest⟩⟩
      · have o00 := o0 0
        have o01 := o0 1
        have o02 := o0 2
        simp only [hOut, hNext, hAt, hFound, List.getElem?_toArray, List.getElem?_cons_zero, List.getElem?_cons_succ] at n0 a0 f0 o00 o01 o02
        clear o0
        gi_wp2
        all_goals first | (exact absurd ‹some undef = some (Value.bool _)› no_undef) | skip
        gi_region_with_o (fail)
        all_goals
          gi_wp2
          exact held_step [(w1.heap.size + 1 + 1, 0, .int .i64 x.1.1), (w1.heap.size + 1 + 1, 1, .string (mkB x.1.2)), (w1.heap.size + 1 + 1, 2, .int .i64 x.len), (w1.heap.size, 0, .int .i64 0), (w1.heap.size + 1 + 1 + 1, 0, .bool true), (w1.heap.size + 1, 0, .int .i64 x.len)]
                HIN.out hz1 (by omega) (by simp; omega) trivial (by simp [blkAt, updO, Nat.add_assoc, hAt]) (by simp [blkAt, updO, Nat.add_assoc, hNext]) (by simp [blkAt, updO, Nat.add_assoc, hOut, Rec.cells]) (by simp [blkAt, updO, Nat.add_assoc, hFound])
      · have o00 := o0 0
        have o01 := o0 1
        have o02 := o0 2
        simp only [hOut, Rec.cells, hNext, hAt, hFound, List.getElem?_toArray, List.getElem?_cons_zero, List.getElem?_cons_succ] at n0 a0 f0 o00 o01 o02
        clear o0
        have hlen2 := rec_len_le y
        by_cases hg1 : x.1.1 = wrap64 (y.1.1 + 1)
        · by_cases hg2 : y.len + x.len = fast.size
          · have hw1 : wrap64 (y.1.1 + 1) = x.1.1 := hg1.symm
            have HG1 := Lib.hid hg1
            clear hg1
            have hw2 : ((y.len : Int) + (x.len : Int)) = (fast.size : Int) := by omega
            gi_wp2
            all_goals first | (exact absurd ‹some undef = some (Value.bool _)› no_undef) | skip
            all_goals try gi_region_with_o (fail)
            all_goals try gi_wp2
            all_goals
              exact held_step [(w1.heap.size + 1 + 1, 0, .int .i64 x.1.1), (w1.heap.size + 1 + 1, 1, .string (mkB x.1.2)), (w1.heap.size + 1 + 1, 2, .int .i64 x.len), (w1.heap.size, 0, .int .i64 y.len), (w1.heap.size + 1 + 1 + 1, 0, .bool true), (w1.heap.size + 1, 0, .int .i64 fast.size)]
                  HIN.out hz1 (by omega) (by simp; omega) ⟨HG1.out, hg2⟩ (by simp [blkAt, updO, Nat.add_assoc, hAt]) (by simp [blkAt, updO, Nat.add_assoc, hNext, hw2]) (by simp [blkAt, updO, Nat.add_assoc, hOut, Rec.cells]) (by simp [blkAt, updO, Nat.add_assoc, hFound])
          · have hw1 : wrap64 (y.1.1 + 1) = x.1.1 := hg1.symm
            have HG1 := Lib.hid hg1
            clear hg1
            have hw2 : ¬ ((y.len : Int) + (x.len : Int)) = (fast.size : Int) := by omega
            gi_wp2
            all_goals first | (exact absurd ‹some undef = some (Value.bool _)› no_undef) | skip
            all_goals try gi_region_with_o (fail)
            all_goals try gi_wp2
            exact ownG_exit (KeepsFrom.refl _ _) ⟨rfl, [y], x, rfl, HIN.out, fun h => hg2 h.2⟩
        · gi_wp2
          all_goals first | (exact absurd ‹some undef = some (Value.bool _)› no_undef) | skip
          all_goals try gi_region_with_o (fail)
          all_goals try gi_wp2
          exact ownG_exit (KeepsFrom.refl _ _) ⟨rfl, [y], x, rfl, HIN.out, fun h => hg1 h.1⟩
      · have hok := HIN.out.ok
        cases rest with
        | cons y3 rest => exact hok.elim
        | nil =>
          have o00 := o0 0
          have o01 := o0 1
          have o02 := o0 2
          simp only [hOut, Rec.cells, hNext, hAt, hFound, List.getElem?_toArray, List.getElem?_cons_zero, List.getElem?_cons_succ] at n0 a0 f0 o00 o01 o02
          clear o0
          have hlen2 := rec_len_le y
          have hlen3 := rec_len_le y2
          obtain ⟨N, hN⟩ : ∃ N : Int, N = (y.len : Int) + (y2.len : Int) := ⟨_, rfl⟩
          rw [← hN] at n0
          have hN0 : 0 ≤ N ∧ N ≤ 14000000 := by omega
          have hw2 : ¬ (N + (x.len : Int)) = (fast.size : Int) := by have := hok.2; omega
          have HOK := Lib.hid hok
          clear hok hN hlen2 hlen3
          by_cases hg1 : x.1.1 = wrap64 (y2.1.1 + 1)
          · have hw1 : wrap64 (y2.1.1 + 1) = x.1.1 := hg1.symm
            clear hg1
            gi_wp2
            all_goals first | (exact absurd ‹some undef = some (Value.bool _)› no_undef) | skip
            all_goals exact ownG_exit (KeepsFrom.refl _ _) ⟨rfl, [y, y2], x, rfl, HIN.out, trivial⟩
          · gi_wp2
            all_goals first | (exact absurd ‹some undef = some (Value.bool _)› no_undef) | skip
            all_goals exact ownG_exit (KeepsFrom.refl _ _) ⟨rfl, [y, y2], x, rfl, HIN.out, trivial⟩
    case done =>
      rintro D xs W hD hS hi hK
      obtain ⟨s', HS, hs'⟩ := hS
      have HIN := Lib.hid hi
      have hsz := hi.size
      have a0 : W.cell? ⟨w1.heap.size, 0, none⟩ = some (.int .i64 (hAt xs)) := Lib.cell_of_heap hi.at_ 0
      have o0 := fun j => Lib.cell_of_heap hi.out j
      have r0 := fun j => Lib.cell_of_heap hi.res j
      have rf := Lib.frozen_of_heap hi.res
      have f0 : W.cell? ⟨w1.heap.size + 1 + 1 + 1, 0, none⟩ = some (.bool (hFound xs)) := Lib.cell_of_heap hi.found 0
      have hmx : Tryz.prog.follows .mixedOrders = true := by kernel_rfl
      rcases xs with _ | ⟨x, _ | ⟨y, _ | ⟨y2, rest⟩⟩⟩
      · clear a0 o0
        simp only [hFound] at f0
        gi_wp2
        obtain ⟨q1, q2, q3⟩ := held_ret HIN.out (by omega) hK (.int .i64 0) (.string ⟨#[]⟩) (.int .i64 0) _ (.inl rfl)
        refine ⟨by simp, .inl ⟨_, _, rfl, run_takeDeferred q1, ?_⟩⟩
        have c0 := Lib.cell_of_heap q2 0
        have c1 := Lib.cell_of_heap q2 1
        have c2 := Lib.cell_of_heap q2 2
        simp only [sets, List.getElem?_toArray, List.getElem?_cons_zero, List.getElem?_cons_succ] at c0 c1 c2
        refine ⟨.tuple #[.agg #[(.int .i64 0), (.string ⟨#[]⟩), (.int .i64 0)], .int .i64 0, .int .i64 262], by simp [results, Tryz.results40, go_sem, c0, c1, c2], ?_⟩
        exact heldOut_none q3 (by rw [← size_bl]; exact H45.out) (heldR_nil HS hs')
      · have o00 := o0 0
        have o01 := o0 1
        have o02 := o0 2
        simp only [hOut, Rec.cells, hAt, hFound, List.getElem?_toArray, List.getElem?_cons_zero, List.getElem?_cons_succ] at a0 f0 o00 o01 o02
        clear o0
        gi_wp2
        all_goals try gi_region_with_o (fail)
        all_goals try gi_wp2
        all_goals
          obtain ⟨q1, q2, q3⟩ := held_ret HIN.out (by omega) hK (.int .i64 x.1.1) (.string (mkB x.1.2)) (.int .i64 (x.len : Int)) _ (.inr rfl)
          refine ⟨by simp, .inl ⟨_, _, rfl, run_takeDeferred q1, ?_⟩⟩
          have c0 := Lib.cell_of_heap q2 0
          have c1 := Lib.cell_of_heap q2 1
          have c2 := Lib.cell_of_heap q2 2
          simp only [sets, List.getElem?_toArray, List.getElem?_cons_zero, List.getElem?_cons_succ] at c0 c1 c2
          refine ⟨.tuple #[.agg #[(.int .i64 x.1.1), (.string (mkB x.1.2)), (.int .i64 (x.len : Int))], .int .i64 0, .int .i64 0], by simp [results, Tryz.results40, go_sem, c0, c1, c2], ?_⟩
          exact heldOut_some q3 (by rw [← size_bl]; exact H45.out) (heldR_one HS hs')
      · have o00 := o0 0
        have o01 := o0 1
        have o02 := o0 2
        have hok := hi.ok
        simp only [hOut, Rec.cells, hAt, hFound, List.getElem?_toArray, List.getElem?_cons_zero, List.getElem?_cons_succ] at a0 f0 o00 o01 o02
        clear o0
        have HOK := Lib.hid hok
        clear hok
        gi_wp2
        all_goals try gi_region_with_o (fail)
        all_goals try gi_wp2
        all_goals
          obtain ⟨q1, q2, q3⟩ := held_ret HIN.out (by omega) hK (.int .i64 y.1.1) (.string (mkB y.1.2)) (.int .i64 (y.len : Int)) _ (.inr rfl)
          refine ⟨by simp, .inl ⟨_, _, rfl, run_takeDeferred q1, ?_⟩⟩
          have c0 := Lib.cell_of_heap q2 0
          have c1 := Lib.cell_of_heap q2 1
          have c2 := Lib.cell_of_heap q2 2
          simp only [sets, List.getElem?_toArray, List.getElem?_cons_zero, List.getElem?_cons_succ] at c0 c1 c2
          refine ⟨.tuple #[.agg #[(.int .i64 y.1.1), (.string (mkB y.1.2)), (.int .i64 (y.len : Int))], .int .i64 (x.len : Int), .int .i64 0], by simp [results, Tryz.results40, go_sem, c0, c1, c2], ?_⟩
          exact heldOut_some q3 (by rw [← size_bl]; exact H45.out) (heldR_two HS HOK.out.1 (by rw [← size_bl]; exact HOK.out.2))
      · exact hi.ok.elim
    case stop =>
      rintro D c pre W hD ⟨s', HS⟩ ⟨rfl, xs, x, rfl, hi, hend⟩ hK
      have HIN := Lib.hid hi
      have hsz := hi.size
      have a0 : W.cell? ⟨w1.heap.size, 0, none⟩ = some (.int .i64 (hAt xs)) := Lib.cell_of_heap hi.at_ 0
      have o0 := fun j => Lib.cell_of_heap hi.out j
      have r0 := fun j => Lib.cell_of_heap hi.res j
      have rf := Lib.frozen_of_heap hi.res
      have f0 : W.cell? ⟨w1.heap.size + 1 + 1 + 1, 0, none⟩ = some (.bool (hFound xs)) := Lib.cell_of_heap hi.found 0
      have hmx : Tryz.prog.follows .mixedOrders = true := by kernel_rfl
      have HEND := Lib.hid hend
      clear hend
      rcases xs with _ | ⟨y, _ | ⟨y1, _ | ⟨y2, rest⟩⟩⟩
      · exact HEND.out.elim
      · have o00 := o0 0
        have o01 := o0 1
        have o02 := o0 2
        simp only [hOut, Rec.cells, hAt, hFound, List.getElem?_toArray, List.getElem?_cons_zero, List.getElem?_cons_succ] at a0 f0 o00 o01 o02
        clear o0
        gi_wp2
        all_goals try gi_region_with_o (fail)
        all_goals try gi_wp2
        all_goals
          obtain ⟨q1, q2, q3⟩ := held_ret HIN.out (by omega) hK (.int .i64 y.1.1) (.string (mkB y.1.2)) (.int .i64 (y.len : Int)) _ (.inr rfl)
          refine ⟨by simp, .inl ⟨_, _, rfl, run_takeDeferred q1, ?_⟩⟩
          have c0 := Lib.cell_of_heap q2 0
          have c1 := Lib.cell_of_heap q2 1
          have c2 := Lib.cell_of_heap q2 2
          simp only [sets, List.getElem?_toArray, List.getElem?_cons_zero, List.getElem?_cons_succ] at c0 c1 c2
          refine ⟨.tuple #[.agg #[(.int .i64 y.1.1), (.string (mkB y.1.2)), (.int .i64 (y.len : Int))], .int .i64 0, .int .i64 0], by simp [results, Tryz.results40, go_sem, c0, c1, c2], ?_⟩
          exact heldOut_some q3 (by rw [← size_bl]; exact H45.out) (heldR_bad HS (by rw [← size_bl]; exact HEND.out))
      · have o00 := o0 0
        have o01 := o0 1
        have o02 := o0 2
        have hok := hi.ok
        simp only [hOut, Rec.cells, hAt, hFound, List.getElem?_toArray, List.getElem?_cons_zero, List.getElem?_cons_succ] at a0 f0 o00 o01 o02
        clear o0
        have HOK := Lib.hid hok
        clear hok
        gi_wp2
        all_goals try gi_region_with_o (fail)
        all_goals try gi_wp2
        all_goals
          obtain ⟨q1, q2, q3⟩ := held_ret HIN.out (by omega) hK (.int .i64 y1.1.1) (.string (mkB y1.1.2)) (.int .i64 (y1.len : Int)) _ (.inr rfl)
          refine ⟨by simp, .inl ⟨_, _, rfl, run_takeDeferred q1, ?_⟩⟩
          have c0 := Lib.cell_of_heap q2 0
          have c1 := Lib.cell_of_heap q2 1
          have c2 := Lib.cell_of_heap q2 2
          simp only [sets, List.getElem?_toArray, List.getElem?_cons_zero, List.getElem?_cons_succ] at c0 c1 c2
          refine ⟨.tuple #[.agg #[(.int .i64 y1.1.1), (.string (mkB y1.1.2)), (.int .i64 (y1.len : Int))], .int .i64 (y.len : Int), .int .i64 0], by simp [results, Tryz.results40, go_sem, c0, c1, c2], ?_⟩
          exact heldOut_some q3 (by rw [← size_bl]; exact H45.out) (heldR_two HS HOK.out.1 (by rw [← size_bl]; exact HOK.out.2))
      · exact hi.ok.elim
end Go.Proofs.YtinkdjeanjhkbaaGreatDoor
