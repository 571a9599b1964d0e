/-
  How a law's row closes: the call returned true and left every block that stood before as it was; so the arguments read as they did. For whatever program.
-/
import Derived.Below
import Derived.ChangeSame
import Derived.Carry
import Derived.OpenShut
import Derived.ProofKit
import Derived.Deep.DeepHandedRow
import Derived.Deep.DeepWitnessRowRef
import Derived.Deep.Slices
namespace Go.Proofs.YtinkdjeanjhkbaaGreatDoor
open Go.RowKit Go.WideShapes Go.ChangeShapes
section
variable {H : Type} {enc : TypeId × Value → H} {P : Program}

theorem trodAll_below (hl : laidOutB P = true) {W W' : World} (hb : Below W.heap.size W W') : ∀ (ts : List TypeId) (vs : List Value) (ds : List (DataW H)) (ps : List MemPlace),
    (∀ t, t ∈ ts → P.readableRec t = true ∧ t < P.types.size) → DataW.TrodAll enc P W 0 (fun _ => true) true ts vs ds ps → (∀ x ∈ ps, x.block < W.heap.size) →
    DataW.TrodAll enc P W' 0 (fun b => decide (b < W.heap.size)) true ts vs ds ps
  | [], [], [], _, _, h, _ => h
  | [], [], _ :: _, _, _, h, _ => h.elim
  | [], _ :: _, _, _, _, h, _ => by cases h
  | _ :: _, [], _, _, _, h, _ => by cases h
  | _ :: _, _ :: _, [], _, _, h, _ => by cases h
  | t :: ts, v :: vs, d :: ds, ps, hr, h, hlt => by
    obtain ⟨p, q, h1, h2, rfl⟩ := h
    obtain ⟨r1, r2⟩ := hr t (List.mem_cons_self ..)
    exact ⟨p, q, Below.trod hl r1 r2 h1 hb (fun x hx => hlt x (List.mem_append_left _ hx)),
      trodAll_below hl hb ts vs ds q (fun u hu => hr u (List.mem_cons_of_mem _ hu)) h2 (fun x hx => hlt x (List.mem_append_right _ hx)), rfl⟩

/-- a slice that came in, element by element: each element's cells are those of a datum of one's own -/
theorem rows_of_trod {α : Type} (vals : α → List Value) (z : α) (k : Nat) {t e : TypeId} (ht : P.underlying t = some (.slice e)) (hk : P.cellsOf e = k) (k0 : 0 < k) (hv0 : ∀ a, vals a ≠ []) {W : World}
    (hdec : ∀ (n : Nat) (cs : List Value) (y : DataW H × List MemPlace), DataW.trod enc P W 0 (fun _ => true) true n e cs = some y → ∃ a, cs = vals a)
    {n : Nat} {v : Value} {y : DataW H × List MemPlace} (h : DataW.trod enc P W 0 (fun _ => true) true n t [v] = some y) :
    ∃ (l : List α) (A : Option Addr) (cap : Nat), v = .slice A l.length cap ∧ l.length ≤ cap ∧ ((A = none → cap = 0) ∧ l.length ≤ 9223372036854775807) ∧
      (0 < l.length → ∃ b o, A = some ⟨b, o, none⟩ ∧ b < W.heap.size ∧ ∀ i, i < l.length → ∀ j, j < k → W.cell? ⟨b, o + i * k + j, none⟩ = (vals (l.getD i z))[j]?) := by
  rcases Deep.open_slice ht h with ⟨e, _⟩ | ⟨a, len, cap, m, n', D, Pl, hcs, hb, hl, hm, hmm, hx, hi⟩
  · simp only [List.cons.injEq, and_true] at e
    subst e
    exact ⟨[], none, 0, rfl, Nat.le_refl _, ⟨fun _ => rfl, by simp⟩, fun h => by cases h⟩
  · simp only [List.cons.injEq, and_true] at hcs
    subst hcs
    have hmc : m = cap := by simpa using hmm
    rw [hk] at hi
    clear hmm hx
    have hact : ∀ i, i < len → ∃ r : α, ∀ j, j < k → W.cell? ((a.add (i * k)).add j) = (vals r)[j]? := by
      intro i h'
      obtain ⟨cs', hc, ht⟩ := hi i (by omega)
      obtain ⟨r, rfl⟩ := hdec _ _ _ ht
      exact ⟨r, fun j hj => (World.cells?_some hc).2.2 j hj⟩
    have hlist : ∀ q, q ≤ len → ∃ l : List α, l.length = q ∧ ∀ i, i < q → ∀ j, j < k → W.cell? ((a.add (i * k)).add j) = (vals (l.getD i z))[j]? := by
      intro q
      induction q with
      | zero => intro _; exact ⟨[], rfl, fun i h => by omega⟩
      | succ q ih =>
        intro hk
        obtain ⟨l, hl1, hl2⟩ := ih (by omega)
        obtain ⟨r, hr⟩ := hact q (by omega)
        refine ⟨l ++ [r], by simp [hl1], fun i hik j hj => ?_⟩
        by_cases e : i = q
        · subst e
          rw [hr j hj, List.getD_eq_getElem?_getD, List.getElem?_append_right (by omega), hl1]
          simp
        · rw [hl2 i (by omega) j hj, List.getD_eq_getElem?_getD, List.getD_eq_getElem?_getD, List.getElem?_append_left (by omega)]
    obtain ⟨l, hl1, hl2⟩ := hlist len (Nat.le_refl _)
    subst hl1
    have hmx : l.length ≤ 9223372036854775807 := by
      have : maxLen ≤ 9223372036854775807 := by unfold maxLen; omega
      omega
    refine ⟨l, some a, cap, rfl, hl, ⟨fun e => (by cases e), hmx⟩, fun h0 => ?_⟩
    have c00 : ∃ x, W.cell? a = some x := by
      have h1 := hl2 0 h0 0 k0
      cases hh : vals (l.getD 0 z) with
      | nil => exact absurd hh (hv0 _)
      | cons x r =>
        rw [hh] at h1
        exact ⟨x, by simpa [Addr.add] using h1⟩
    have hblk : a.block < W.heap.size ∧ a.spot = none := by
      obtain ⟨x, c00⟩ := c00
      unfold World.cell? at c00
      split at c00
      · rename_i c t f hh
        refine ⟨(Array.getElem?_eq_some_iff.1 hh).1, ?_⟩
        split at c00
        · cases c00
        · rename_i hs
          cases hsp : a.spot with
          | none => rfl
          | some x => rw [hsp] at hs; exact absurd rfl hs
      · cases c00
    obtain ⟨b, o, sp⟩ := a
    obtain ⟨h1, h2⟩ := hblk
    simp only at h1 h2
    subst h2
    have hadd : ∀ i j, ((⟨b, o, none⟩ : Addr).add (i * k)).add j = ⟨b, o + i * k + j, none⟩ := by
      intro i j
      unfold Addr.add
      split
      · split
        · simp_all
        · simp_all
      · split
        · simp_all
        · simp_all
    refine ⟨b, o, rfl, h1, fun i hik j hj => ?_⟩
    have c0 := hl2 i hik j hj
    rw [hadd] at c0
    exact c0

theorem law_post {f : Func} {s : ChangeSpec} {fresh handsOn : Bool} {W W' : World} {args : Array Value} {ds gs : List (DataW H)} {before : List MemPlace} {tb : TypeId}
    (hl : laidOutB P = true) (hts : ∀ t, t ∈ f.params.toList → P.readableRec t = true ∧ t < P.types.size) (hv : s.vars = []) (hfn : s.fn H ds = { results := [.lit (.bool true)], args := ds })
    (hr : f.resultTypes = #[tb]) (htb : P.underlying tb = some .bool) (hW : DataW.Whole enc P f.params.toList s.vars false W args.toList ds gs before) (hb : Below W.heap.size W W') :
    s.post enc P f false fresh handsOn false W args (.bool true) W' := by
  have hW' := hW
  obtain ⟨p, q, hA, hV, rfl, _, _⟩ := hW
  have hgq : gs = [] ∧ q = [] := by
    rw [hv] at hV
    cases gs with
    | nil => exact ⟨rfl, hV⟩
    | cons _ _ => exact hV.elim
  obtain ⟨rfl, rfl⟩ := hgq
  refine ⟨ds, [], p ++ [], [], p, [], hW', ?_, ?_, ?_, ?_, fun h => by cases h⟩
  · rw [List.append_nil, hfn, hr]
    exact trodAll_mk1 (shut_bool htb true)
  · rw [List.append_nil, hfn]
    exact trodAll_below hl hb _ _ _ _ hts hA (fun x hx => hW'.lt x (List.mem_append_left _ hx))
  · rw [List.append_nil, hfn, hv]
    exact rfl
  · exact World.keptBut_mono (fun x hx => ⟨hx, Or.inr (Or.inl (by simpa using hx))⟩) (hb.frame (· ∈ p ++ []))
end
end Go.Proofs.YtinkdjeanjhkbaaGreatDoor
