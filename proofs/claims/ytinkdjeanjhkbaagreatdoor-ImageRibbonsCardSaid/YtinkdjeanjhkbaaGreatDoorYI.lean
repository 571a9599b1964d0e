/-
  ImageRibbons, plain: what a call returned as one ribbon and one number; a second loss of power; Act of two lists.
-/
import Derived.Test.YtinkdjeanjhkbaaGreatDoorYH
import Derived.Test.YtinkdjeanjhkbaaGreatDoorYE
import Derived.Test.YtinkdjeanjhkbaaGreatDoorYF
namespace Go.Proofs.YtinkdjeanjhkbaaGreatDoor
open Go.RowKit

/-- the number beside a ribbon that is returned -/
def errOf (err : Int) (o : Option Rib) : Int := match o with
  | none => err
  | some _ => 0
def ribOf (o : Option Rib) : Rib := o.getD zRib

def Ret (q : Rib) (er : Int) (w : World) (e : Ending) (w' : World) : Prop :=
  ∃ A cap, Hid (ActsIn w'.heap.size w' (.slice A q.acts.length cap) q.acts) ∧ e = .returned (.tuple #[.agg #[.int .i64 q.room, .string q.fast, .slice A q.acts.length cap], .int .i64 er]) ∧ Below w.heap.size w w'

theorem RibOut.ret {err : Int} {o : Option Rib} {w w' : World} {e : Ending} (h : RibOut err o w e w') : Ret (ribOf o) (errOf err o) w e w' := by
  obtain ⟨A, cap, h1, h2⟩ := h
  cases o with
  | none => exact ⟨none, 0, ActsIn.nil _ _, h1, h2⟩
  | some r => exact ⟨A, cap, h1.1, h1.2, h2⟩

theorem act_ret (r : Rib) (v lv : Value) (l : List RAct) (w : World) (hv : ActsIn w.heap.size w v r.acts) (hl : ActsIn w.heap.size w lv l) :
    Calls Tryz.prog 5 #[.agg #[.int .i64 r.room, .string r.fast, v], lv] w (Ret (ribOf (actR r l)) (errOf 260 (actR r l)) w) := (act_any r v lv l w hv hl).mono fun _ _ => RibOut.ret
theorem ract_ret (r : Rib) (v lv : Value) (l : List RAct) (w : World) (hv : ActsIn w.heap.size w v r.acts) (hl : ActsIn w.heap.size w lv l) :
    Calls Tryz.prog 6 #[.agg #[.int .i64 r.room, .string r.fast, v], lv] w (Ret (ribOf (actR r l)) (errOf 260 (actR r l)) w) := (ract_any r v lv l w hv hl).mono fun _ _ => RibOut.ret
theorem lose_ret (r : Rib) (v : Value) (a b c : Int) (w : World) (hv : ActsIn w.heap.size w v r.acts) :
    Calls Tryz.prog 7 #[.agg #[.int .i64 r.room, .string r.fast, v], .int .i64 a, .int .i64 b, .int .i64 c] w (Ret (ribOf (loseR r a b c)) (errOf 260 (loseR r a b c)) w) := (lose_any r v a b c w hv).mono fun _ _ => RibOut.ret
theorem rlose_ret (r : Rib) (v : Value) (a b c : Int) (w : World) (hv : ActsIn w.heap.size w v r.acts) :
    Calls Tryz.prog 8 #[.agg #[.int .i64 r.room, .string r.fast, v], .agg #[.int .i64 a, .int .i64 b, .int .i64 c]] w (Ret (ribOf (loseR r a b c)) (errOf 260 (loseR r a b c)) w) := (rlose_any r v a b c w hv).mono fun _ _ => RibOut.ret
theorem hurt_ret (r : Rib) (v : Value) (at_ : Int) (b : UInt8) (w : World) (hv : ActsIn w.heap.size w v r.acts) (ha : -9223372036854775808 ≤ at_ ∧ at_ ≤ 9223372036854775807) :
    Calls Tryz.prog 9 #[.agg #[.int .i64 r.room, .string r.fast, v], .int .i64 at_, .int .u8 b.toNat] w (Ret (ribOf (hurtR r at_ b)) (errOf (if r.valid then 1 else 260) (hurtR r at_ b)) w) := (hurt_any r v at_ b w hv ha).mono fun _ _ => RibOut.ret
theorem rhurt_ret (r : Rib) (v : Value) (at_ : Int) (b : UInt8) (w : World) (hv : ActsIn w.heap.size w v r.acts) (ha : -9223372036854775808 ≤ at_ ∧ at_ ≤ 9223372036854775807) :
    Calls Tryz.prog 10 #[.agg #[.int .i64 r.room, .string r.fast, v], .int .i64 at_, .int .u8 b.toNat] w (Ret (ribOf (hurtR r at_ b)) (errOf (if r.valid then 1 else 260) (hurtR r at_ b)) w) := (rhurt_any r v at_ b w hv ha).mono fun _ _ => RibOut.ret
theorem new_ret (room : Int) (w : World) : Calls Tryz.prog 11 #[.int .i64 room] w (Ret (ribOf (newR room)) (errOf 260 (newR room)) w) := (new_any room w).mono fun _ _ => RibOut.ret
theorem rnew_ret (room : Int) (w : World) : Calls Tryz.prog 12 #[.int .i64 room] w (Ret (ribOf (newR room)) (errOf 260 (newR room)) w) := (rnew_any room w).mono fun _ _ => RibOut.ret

theorem zRib_invalid : ¬ zRib.valid := by
  intro h
  have := ((valid_iff _ _ _).1 h).1
  exact absurd this (by decide)
theorem loses_bad {r : Rib} (h : ¬ r.valid) (a b c : Int) : loseR r a b c = none := by unfold loseR; rw [if_neg h]
theorem acts_bad {r : Rib} (h : ¬ r.valid) (l : List RAct) : actR r l = none := by unfold actR; rw [if_neg h]

/-- a second loss of power changes nothing -/
theorem lose_twice {r q : Rib} {a b c : Int} (h : loseR r a b c = some q) (x y z : Int) : loseR q x y z = some q := by
  unfold loseR at h
  by_cases hv : r.valid
  · rw [if_pos hv] at h
    have hq := Option.some.inj h
    obtain ⟨v1, v2, v3, v4, v5, v6⟩ := (valid_iff _ _ _).1 hv
    have hbase : ((if a % 2 = 1 then keptL (bl r.fast) r.acts else bl r.fast).length : Int) ≤ r.room := by
      split
      · omega
      · rw [← size_bl]; omega
    generalize (if a % 2 = 1 then keptL (bl r.fast) r.acts else bl r.fast) = base at hq hbase
    obtain ⟨F, hF⟩ : ∃ F, loseL r.room base (addedL r.acts) b c = F := ⟨_, rfl⟩
    have hlen : (F.length : Int) ≤ r.room := by
      rw [← hF]; unfold loseL; simp only [List.length_append, List.length_take]; omega
    rw [hF] at hq
    subst hq
    have hval : (⟨r.room, mkB F, []⟩ : Rib).valid := (valid_iff _ _ _).2 ⟨v1, v2, by rw [size_mkB]; exact hlen, trivial, trivial, by simp only [keptL, addedL, bl_mk, List.length_nil]; omega⟩
    unfold loseR
    rw [if_pos hval]
    have hk : (if x % 2 = 1 then keptL (bl (mkB F)) [] else bl (mkB F)) = F := by split <;> simp only [keptL, bl_mk]
    have hl : loseL r.room F [] y z = F := by unfold loseL; simp
    simp only [hk, addedL, hl]
  · rw [if_neg hv] at h; cases h

theorem actsFrom_append (l m : List RAct) : ∀ r : Rib, actsFrom r (l ++ m) = (actsFrom r l).bind fun r' => actsFrom r' m := by
  induction l with
  | nil => intro r; rfl
  | cons a l ih =>
    intro r
    simp only [List.cons_append, actsFrom]
    cases actStep r a with
    | none => rfl
    | some r' => exact ih r'
theorem actsFrom_valid {l : List RAct} : ∀ {r r' : Rib}, r.valid → actsFrom r l = some r' → r'.valid := by
  induction l with
  | nil => intro r r' h e; cases e; exact h
  | cons a l ih =>
    intro r r' h e
    simp only [actsFrom] at e
    cases hs : actStep r a with
    | none => rw [hs] at e; cases e
    | some q => rw [hs] at e; exact ih (actStep_valid h hs) e
/-- Act of two lists is as of one -/
theorem act_halves {r q : Rib} {l : List RAct} (h : actR r l = some q) (k : Nat) : ∃ u, actR r (l.take k) = some u ∧ actR u (l.drop k) = some q := by
  unfold actR at h
  by_cases hv : r.valid
  · rw [if_pos hv, ← List.take_append_drop k l, actsFrom_append] at h
    cases hu : actsFrom r (l.take k) with
    | none => rw [hu] at h; cases h
    | some u =>
      rw [hu] at h
      refine ⟨u, by unfold actR; rw [if_pos hv, hu], ?_⟩
      unfold actR
      rw [if_pos (actsFrom_valid hv hu)]
      exact h
  · rw [if_neg hv] at h; cases h

/-- a part of a row of actions -/
theorem ActsIn.part {B : Nat} {w : World} {A : Option Addr} {cap : Nat} {l : List RAct} (h : ActsIn B w (.slice A l.length cap) l) (k : Nat) (hk : k ≤ l.length) : ActsIn B w (.slice A k cap) (l.take k) := by
  obtain ⟨A', cap', h1, h2, h3, h4⟩ := h
  injection h1 with h1 _ h1'
  subst h1; subst h1'
  have hl : (l.take k).length = k := by simp; omega
  refine ⟨A, cap, by rw [hl], by omega, ⟨h3.1, by omega⟩, fun h0 => ?_⟩
  obtain ⟨b, o, e, hb, hi⟩ := h4 (by omega)
  refine ⟨b, o, e, hb, fun i hil => ?_⟩
  have := hi i (by omega)
  rw [List.getD_eq_getElem?_getD] at this
  rw [List.getD_eq_getElem?_getD, List.getElem?_take_of_lt (by omega)]
  exact this
end Go.Proofs.YtinkdjeanjhkbaaGreatDoor
